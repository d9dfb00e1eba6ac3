/- The walk of the law SubDoes. -/
import Derived.Test.YtecgmgidfjbamaaSubDo
import Derived.Test.YtecgmgidfjbamaaSubbed
import Derived.Test.YtecgmgidfjbamaaHeavy
import Derived.Test.YtecgmgidfjbamaaRows2
import Derived.Test.YtecgmgidfjbamaaHolds
import Derived.Deep.RegionHeld3
namespace Go.Proofs.Ytecgmgidfjbamaa
open Go.RowKit
set_option linter.unusedSimpArgs false

/-- 10 cells, kept. -/
theorem held10 {W wa wb : World} {a0 a1 a2 a3 a4 a5 a6 a7 a8 a9 : Addr} {v0 v1 v2 v3 v4 v5 v6 v7 v8 v9 : Value} (h : wa.cell? a0 = some v0 ∧ wa.cell? a1 = some v1 ∧ wa.cell? a2 = some v2 ∧ wa.cell? a3 = some v3 ∧ wa.cell? a4 = some v4 ∧ wa.cell? a5 = some v5 ∧ wa.cell? a6 = some v6 ∧ wa.cell? a7 = some v7 ∧ wa.cell? a8 = some v8 ∧ wa.cell? a9 = some v9 ∧ Below W.heap.size W wa) (hb : Below wa.heap.size wa wb) :
    wb.cell? a0 = some v0 ∧ wb.cell? a1 = some v1 ∧ wb.cell? a2 = some v2 ∧ wb.cell? a3 = some v3 ∧ wb.cell? a4 = some v4 ∧ wb.cell? a5 = some v5 ∧ wb.cell? a6 = some v6 ∧ wb.cell? a7 = some v7 ∧ wb.cell? a8 = some v8 ∧ wb.cell? a9 = some v9 ∧ Below W.heap.size W wb := ⟨keepBox hb h.1, keepBox hb h.2.1, keepBox hb h.2.2.1, keepBox hb h.2.2.2.1, keepBox hb h.2.2.2.2.1, keepBox hb h.2.2.2.2.2.1, keepBox hb h.2.2.2.2.2.2.1, keepBox hb h.2.2.2.2.2.2.2.1, keepBox hb h.2.2.2.2.2.2.2.2.1, keepBox hb h.2.2.2.2.2.2.2.2.2.1, below_next h.2.2.2.2.2.2.2.2.2.2 hb⟩
theorem held10_bl {W wa : World} {a0 a1 a2 a3 a4 a5 a6 a7 a8 a9 : Addr} {v0 v1 v2 v3 v4 v5 v6 v7 v8 v9 : Value} (h : wa.cell? a0 = some v0 ∧ wa.cell? a1 = some v1 ∧ wa.cell? a2 = some v2 ∧ wa.cell? a3 = some v3 ∧ wa.cell? a4 = some v4 ∧ wa.cell? a5 = some v5 ∧ wa.cell? a6 = some v6 ∧ wa.cell? a7 = some v7 ∧ wa.cell? a8 = some v8 ∧ wa.cell? a9 = some v9 ∧ Below W.heap.size W wa) : Below W.heap.size W wa := h.2.2.2.2.2.2.2.2.2.2

theorem sub_pair : subbed [[1, 2], [-1]] = [[-1], [2]] := by decide

set_option maxHeartbeats 4000000 in
set_option maxRecDepth 100000 in
theorem subDoes_walk {vars : Int} {A : Option Addr} {n c : Nat} {xss : List (List Int)} (w : World) (hv : I64 vars) (h : Grid w A n c xss) :
    Calls Try.prog 9 #[.agg #[.int .i64 vars, .slice A n c]] w fun e w' => e = .returned (.bool true) ∧ Below w.heap.size w w' := by
  have hbd := h.bd
  have hlen := Lib.hid h.len
  obtain ⟨r1, r2, hr⟩ : ∃ r1 r2, Hid (checkC vars xss = (r1, r2)) := ⟨_, _, rfl⟩
  obtain ⟨hvy, hhv⟩ : ∃ r, Hid ((decide (40 < vars) || decide (60 < (n : Int))) = r) := ⟨_, rfl⟩
  have hn63 : n ≤ 9223372036854775807 := by omega
  have hk := h.keep (below_new w (.cells #[.int .i64 vars, .slice A n c] 24))
  cases hvy
  rotate_left
  · go_enter Try.func9, Try.ntmps9
    go_wp2_with fail
    refine (heavy_any _ _ _ _ _ hn63 _ hhv).mono ?_
    rintro e wh ⟨rfl, hbh⟩
    have HB := Lib.hid (below_box hbh).1
    clear hbh hk
    go_wp2_with fail
    go_ret
    exact ⟨rfl, HB.out⟩
  by_cases hr1 : r1 = 0
  · subst hr1
    obtain ⟨hr0, v0, v1, hn400, hrows⟩ := checkC_ok (vars := vars) (xss := xss) (by rw [hr.out])
    obtain rfl : r2 = 0 := by rw [hr.out] at hr0; simpa using hr0
    rw [hlen.out] at hn400
    have HROWS := Lib.hid hrows
    clear hr0 hrows
    go_enter Try.func9, Try.ntmps9
    go_wp2_with fail
    refine (heavy_any _ _ _ _ _ hn63 _ hhv).mono ?_
    rintro e wh ⟨rfl, hbh⟩
    obtain ⟨ch0, ch1, lh0, _⟩ := box2 hbh
    have hkh := hk.keep hbh
    have HBH := Lib.hid hbh
    clear hbh
    go_wp2_with fail
    refine (subdo_own _ _ _ _ _ _ hkh hv hr).mono ?_
    rintro e w1 ⟨A1, n1, c1, rfl, G1, hb1'⟩
    have hb1 := below_next HBH.out hb1'
    clear hb1' ch0 ch1 lh0 hkh HBH
    obtain ⟨c0, c1', l0, B1⟩ := box2 hb1
    have HB1 := Lib.hid B1
    have g1 := (hk.keep hb1).keep (below_alloc (below_new w1 (.cells #[.int .i64 vars, .slice A1 n1 c1] 24)) (.cells #[.int .i64 0, .int .i64 0] 28))
    have G1' := G1.keep (below_alloc (below_new w1 (.cells #[.int .i64 vars, .slice A1 n1 c1] 24)) (.cells #[.int .i64 0, .int .i64 0] 28))
    clear hb1 B1 hk G1
    go_wp2_with fail
    refine (check_ref _ _ _ _ _ _ g1 hv _ _ hr).mono ?_
    rintro e w2 ⟨rfl, hb2⟩
    obtain ⟨kd, kf, B2, l1⟩ := two_blks hb2
    have d0 := kd.cell 0
    have d1 := kd.cell 1
    have f0 := kf.cell 0
    have f1 := kf.cell 1
    simp at d0 d1 f0 f1
    have C0 := keepBox B2 c0
    have C1 := keepBox B2 c1'
    have HB2 := Lib.hid (below_next HB1.out B2)
    have g2 := (g1.keep hb2).keep (below_new w2 (.cells #[.int .i64 0, .int .i64 0] 28))
    have G2 := (G1'.keep hb2).keep (below_new w2 (.cells #[.int .i64 0, .int .i64 0] 28))
    have l2 : w.heap.size < w2.heap.size := by omega
    clear hb2 B2 c0 c1' g1 G1' kd kf
    go_wp2_with fail
    refine (pair_any _).mono ?_
    rintro e w3 ⟨A3, n3, c3, rfl, G3, hb3⟩
    obtain ⟨x0, x1, l3, B3⟩ := box2 hb3
    have D0 := keepBox B3 d0
    have D1 := keepBox B3 d1
    have F0 := keepBox B3 f0
    have F1 := keepBox B3 f1
    have E0 := keepBox B3 C0
    have E1 := keepBox B3 C1
    have HB3 := Lib.hid (below_next HB2.out B3)
    have g3 := g2.keep hb3
    have G3' := G2.keep hb3
    clear hb3 B3 d0 d1 f0 f1 C0 C1 g2 G2
    go_wp2_with fail
    refine (subdo_own _ _ _ [[1, 2], [-1]] _ _ G3 ⟨by omega, by omega⟩ (by show _ = _; decide)).mono ?_
    rintro e w4 ⟨A4, n4, c4, rfl, G4', hb4⟩
    have G4 : Grid w4 A4 n4 c4 [[-1], [2]] := by rw [sub_pair] at G4'; exact G4'
    have B4 := hb4
    have hbf := below_alloc (below_new w4 (.cells #[.int .i64 2, .slice A4 n4 c4] 24)) (.cells #[.int .i64 0, .int .i64 0] 28)
    have l4 := B4.size
    have B5 := below_next B4 hbf
    have HF0 := Lib.hid (keepBox B5 F0)
    have HF1 := Lib.hid (keepBox B5 F1)
    have HX0 := Lib.hid (keepBox B5 x0)
    have HX1 := Lib.hid (keepBox B5 x1)
    have HD0 := Lib.hid (keepBox B5 D0)
    have HD1 := Lib.hid (keepBox B5 D1)
    have HE0 := Lib.hid (keepBox B5 E0)
    have HE1 := Lib.hid (keepBox B5 E1)
    have HG5 := Lib.hid (g3.keep B5)
    have HG3 := Lib.hid (G3'.keep B5)
    have HG4 := Lib.hid (G4.keep hbf)
    have HB5 := Lib.hid (below_next HB3.out B5)
    clear hb4 B4 B5 hbf F0 F1 x0 x1 D0 D1 E0 E1 g3 G3' G4 G4' G3
    go_wp2_with fail
    obtain ⟨W, hW⟩ : ∃ W, W = (w4.alloc (.cells #[.int .i64 2, .slice A4 n4 c4] 24)).alloc (.cells #[.int .i64 0, .int .i64 0] 28) := ⟨_, rfl⟩
    have q4 : W.cell? ⟨w4.heap.size, 1, none⟩ = some (.slice A4 n4 c4) := by rw [hW]; simp [go_sem]
    have q5 : W.cell? ⟨w4.heap.size + 1, 0, none⟩ = some (.int .i64 0) := by rw [hW]; simp [go_sem]
    rw [← hW] at HF0 HF1 HX0 HX1 HD0 HD1 HE0 HE1 HG5 HG3 HG4 HB5 ⊢
    have q0 : W.cell? ⟨w1.heap.size + 1, 0, none⟩ = some (.int .i64 0) ∧ W.cell? ⟨w1.heap.size + 1, 1, none⟩ = some (.int .i64 0) ∧ W.cell? ⟨w2.heap.size, 0, none⟩ = some (.int .i64 0) ∧ W.cell? ⟨w2.heap.size, 1, none⟩ = some (.int .i64 0) ∧ W.cell? ⟨w1.heap.size, 0, none⟩ = some (.int .i64 vars) ∧ W.cell? ⟨w1.heap.size, 1, none⟩ = some (.slice A1 n1 c1) ∧ W.cell? ⟨w.heap.size, 0, none⟩ = some (.int .i64 vars) ∧ W.cell? ⟨w.heap.size, 1, none⟩ = some (.slice A n c) ∧ W.cell? ⟨w4.heap.size + 1, 0, none⟩ = some (.int .i64 0) ∧ W.cell? ⟨w4.heap.size, 1, none⟩ = some (.slice A4 n4 c4) ∧ Below W.heap.size W W := ⟨HF0.out, HF1.out, HX0.out, HX1.out, HD0.out, HD1.out, HE0.out, HE1.out, q5, q4, Below.refl _ _⟩
    have Q0 := Lib.hid q0
    clear hW q0 q4 q5 HF0 HF1 HX0 HX1 HD0 HD1 HE0 HE1
    have vv : (vars == vars) = true := by simp
    go_region_held3 (fun w' => w'.cell? ⟨w1.heap.size + 1, 0, none⟩ = some (.int .i64 0) ∧ w'.cell? ⟨w1.heap.size + 1, 1, none⟩ = some (.int .i64 0) ∧ w'.cell? ⟨w2.heap.size, 0, none⟩ = some (.int .i64 0) ∧ w'.cell? ⟨w2.heap.size, 1, none⟩ = some (.int .i64 0) ∧ w'.cell? ⟨w1.heap.size, 0, none⟩ = some (.int .i64 vars) ∧ w'.cell? ⟨w1.heap.size, 1, none⟩ = some (.slice A1 n1 c1) ∧ w'.cell? ⟨w.heap.size, 0, none⟩ = some (.int .i64 vars) ∧ w'.cell? ⟨w.heap.size, 1, none⟩ = some (.slice A n c) ∧ w'.cell? ⟨w4.heap.size + 1, 0, none⟩ = some (.int .i64 0) ∧ w'.cell? ⟨w4.heap.size, 1, none⟩ = some (.slice A4 n4 c4) ∧ Below W.heap.size W w') (first | exact held10 (by assumption) (by assumption) | exact held10 (by assumption) (below_new _ _) | exact held10 (by assumption) (below_drewN _ _) | exact held10 Q0.out (below_drewN _ 1))
      (first
        | (go_at_call 35; (with_reducible refine (subbed_ref _ _ _ xss vars _ ?_ v0 v1 hn400 HROWS.out).mono ?_); (exact HG5.out.keep (held10_bl (by assumption))); rintro e w6 ⟨A6, n6, c6, rfl, G6, hb6⟩)
        | (go_at_call 27; (with_reducible refine (cnfs_any _ _ _ _ _ _ (subbed xss) (subbed xss) _ _ _ ?_ ?_ true ?_).mono ?_); (exact HG3.out.keep (held10_bl (by assumption))); (exact G6); (show _ = _; rw [vv]; simp [rowsB]); rintro e w7 ⟨rfl, hb7⟩)
        | (go_at_call 29; (with_reducible refine (rows_any _ _ _ _ _ _ [[-1], [2]] [[-1], [2]] _ ?_ ?_ true ?_).mono ?_); (exact HG4.out.keep (held10_bl (by assumption))); (first | exact grid2 _ (by simp) ((ints_made _ _ [-1] (by simp) (by simp [I64]) (by decide)).keep (below_new _ _)) (ints_made _ _ [2] (by simp) (by simp [I64]) (by decide)) | exact grid2 _ (by simp) (ints_made _ _ [-1] (by simp) (by simp [I64]) (by decide)) ((ints_made _ _ [2] (by simp) (by simp [I64]) (by decide)).keep (below_new _ _))); rfl; rintro e w8 ⟨rfl, k8, rfl⟩))
    all_goals
      go_wp2_with fail
      go_ret
      exact ⟨rfl, below_next HB5.out (held10_bl (by assumption))⟩
  · have d1 : (r1 != 0) = true := by simpa using hr1
    go_enter Try.func9, Try.ntmps9
    go_wp2_with fail
    refine (heavy_any _ _ _ _ _ hn63 _ hhv).mono ?_
    rintro e wh ⟨rfl, hbh⟩
    obtain ⟨ch0, ch1, lh0, _⟩ := box2 hbh
    have hkh := hk.keep hbh
    have HBH := Lib.hid hbh
    clear hbh
    go_wp2_with fail
    refine (subdo_wrong _ _ _ _ _ _ hkh hv _ _ hr hr1).mono ?_
    rintro e w1 ⟨rfl, hb1'⟩
    have hb1 := below_next HBH.out hb1'
    clear hb1' ch0 ch1 lh0 hkh HBH
    obtain ⟨c0, c1, l0, B1⟩ := box2 hb1
    have HB1 := Lib.hid B1
    have g1 := (hk.keep hb1).keep (below_alloc (below_new w1 (.cells #[.int .i64 0, .slice none 0 0] 24)) (.cells #[.int .i64 r1, .int .i64 r2] 28))
    clear hb1 B1 hk
    go_wp2_with fail
    refine (check_ref _ _ _ _ _ _ g1 hv _ _ hr).mono ?_
    rintro e w2 ⟨rfl, hb2⟩
    obtain ⟨kd, kf, B2, l1⟩ := two_blks hb2
    have d0 := kd.cell 0
    have d1' := kd.cell 1
    have f0 := kf.cell 0
    have f1 := kf.cell 1
    simp at d0 d1' f0 f1
    have HB2 := Lib.hid (below_next HB1.out B2)
    have l2 : w1.heap.size < w2.heap.size := by omega
    have l3 : w1.heap.size + 1 < w2.heap.size := by omega
    clear hb2 B2 c0 c1 g1 kd kf
    go_wp2_with fail
    refine (none_any _ _ _ _ _ (by omega) true (by rfl)).mono ?_
    rintro e w3 ⟨rfl, hb3⟩
    go_wp2_with fail
    go_ret
    exact ⟨rfl, below_next (below_alloc HB2.out _) hb3⟩
end Go.Proofs.Ytecgmgidfjbamaa
