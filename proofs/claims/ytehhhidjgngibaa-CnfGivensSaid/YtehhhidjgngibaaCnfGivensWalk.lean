/- The walk of the law CnfGivens. -/
import Derived.Test.YtehhhidjgngibaaGivenRef
import Derived.Test.YtehhhidjgngibaaRows2
import Derived.Test.YtehhhidjgngibaaHolds
import Derived.Deep.RegionHeld3
namespace Go.Proofs.Ytehhhidjgngibaa
open Go.RowKit

/-- 10 cells, kept. -/
theorem held10 {W wa wb : World} {a0 a1 a2 a3 a4 a5 a6 a7 a8 a9 : Addr} {v0 v1 v2 v3 v4 v5 v6 v7 v8 v9 : Value} (h : wa.cell? a0 = some v0 ∧ wa.cell? a1 = some v1 ∧ wa.cell? a2 = some v2 ∧ wa.cell? a3 = some v3 ∧ wa.cell? a4 = some v4 ∧ wa.cell? a5 = some v5 ∧ wa.cell? a6 = some v6 ∧ wa.cell? a7 = some v7 ∧ wa.cell? a8 = some v8 ∧ wa.cell? a9 = some v9 ∧ Below W.heap.size W wa) (hb : Below wa.heap.size wa wb) :
    wb.cell? a0 = some v0 ∧ wb.cell? a1 = some v1 ∧ wb.cell? a2 = some v2 ∧ wb.cell? a3 = some v3 ∧ wb.cell? a4 = some v4 ∧ wb.cell? a5 = some v5 ∧ wb.cell? a6 = some v6 ∧ wb.cell? a7 = some v7 ∧ wb.cell? a8 = some v8 ∧ wb.cell? a9 = some v9 ∧ Below W.heap.size W wb := ⟨keepBox hb h.1, keepBox hb h.2.1, keepBox hb h.2.2.1, keepBox hb h.2.2.2.1, keepBox hb h.2.2.2.2.1, keepBox hb h.2.2.2.2.2.1, keepBox hb h.2.2.2.2.2.2.1, keepBox hb h.2.2.2.2.2.2.2.1, keepBox hb h.2.2.2.2.2.2.2.2.1, keepBox hb h.2.2.2.2.2.2.2.2.2.1, below_next h.2.2.2.2.2.2.2.2.2.2 hb⟩
theorem held10_bl {W wa : World} {a0 a1 a2 a3 a4 a5 a6 a7 a8 a9 : Addr} {v0 v1 v2 v3 v4 v5 v6 v7 v8 v9 : Value} (h : wa.cell? a0 = some v0 ∧ wa.cell? a1 = some v1 ∧ wa.cell? a2 = some v2 ∧ wa.cell? a3 = some v3 ∧ wa.cell? a4 = some v4 ∧ wa.cell? a5 = some v5 ∧ wa.cell? a6 = some v6 ∧ wa.cell? a7 = some v7 ∧ wa.cell? a8 = some v8 ∧ wa.cell? a9 = some v9 ∧ Below W.heap.size W wa) : Below W.heap.size W wa := h.2.2.2.2.2.2.2.2.2.2

set_option maxHeartbeats 4000000 in
set_option maxRecDepth 100000 in
theorem cnfGivens_walk {vars : Int} {A B : Option Addr} {n c m d : Nat} {xss : List (List Int)} {l : List Int} (w : World) (hv : I64 vars) (h : Grid w A n c xss) (h' : Ints w B m d l) :
    Calls Try.prog 12 #[.agg #[.int .i64 vars, .slice A n c], .slice B m d] w fun e w' => e = .returned (.bool true) ∧ Below w.heap.size w w' := by
  have hbd := h.bd
  have hlen := Lib.hid h.len
  obtain ⟨r1, r2, hr⟩ : ∃ r1 r2, Hid (besideR vars xss l = (r1, r2)) := ⟨_, _, rfl⟩
  have hk := h.keep (below_new w (.cells #[.int .i64 vars, .slice A n c] 41))
  have hk' := h'.keep (below_new w (.cells #[.int .i64 vars, .slice A n c] 41))
  by_cases hr1 : r1 = 0
  · subst hr1
    obtain ⟨hr0, hc0, _⟩ := besideR_ok (vars := vars) (xss := xss) (l := l) (by rw [hr.out])
    obtain rfl : r2 = 0 := by rw [hr.out] at hr0; simpa using hr0
    obtain ⟨_, v0, v1, hn400, hrows⟩ := checkC_ok hc0
    rw [hlen.out] at hn400
    have HROWS : Hid (∀ xs ∈ xss, xs.length ≤ 24 ∧ Lits 120 xs) := fun xs hx => ⟨(hrows xs hx).1, ⟨fun x hx' => by have := (hrows xs hx).2.1 x hx'; omega, (hrows xs hx).2.2⟩⟩
    clear hr0 hc0 hrows
    go_enter Try.func12, Try.ntmps12
    go_wp2_with fail
    refine (given_own _ _ _ _ _ _ _ _ _ _ hk hv hk' hr).mono ?_
    rintro e w1 ⟨A1, n1, c1, rfl, G1, hb1⟩
    obtain ⟨c0, c1', l0, B1⟩ := box2 hb1
    have HB1 := Lib.hid B1
    have g1 := (hk.keep hb1).keep (below_alloc (below_new w1 (.cells #[.int .i64 vars, .slice A1 n1 c1] 41)) (.cells #[.int .i64 0, .int .i64 0] 24))
    have g1' := (hk'.keep hb1).keep (below_alloc (below_new w1 (.cells #[.int .i64 vars, .slice A1 n1 c1] 41)) (.cells #[.int .i64 0, .int .i64 0] 24))
    have G1' := G1.keep (below_alloc (below_new w1 (.cells #[.int .i64 vars, .slice A1 n1 c1] 41)) (.cells #[.int .i64 0, .int .i64 0] 24))
    clear hb1 B1 hk hk' G1
    go_wp2_with fail
    refine (beside_any _ _ _ _ _ _ _ _ _ _ g1 hv g1' _ _ hr).mono ?_
    rintro e w2 ⟨rfl, hb2⟩
    obtain ⟨kd, kf, B2, l1⟩ := two_blks hb2
    have d0 := kd.cell 0
    have d1 := kd.cell 1
    have f0 := kf.cell 0
    have f1 := kf.cell 1
    simp at d0 d1 f0 f1
    have C0 := keepBox B2 c0
    have C1 := keepBox B2 c1'
    have HB2 := Lib.hid (below_next HB1.out B2)
    have g2 := (g1.keep hb2).keep (below_new w2 (.cells #[.int .i64 0, .int .i64 0] 24))
    have g2' := (g1'.keep hb2).keep (below_new w2 (.cells #[.int .i64 0, .int .i64 0] 24))
    have G2 := (G1'.keep hb2).keep (below_new w2 (.cells #[.int .i64 0, .int .i64 0] 24))
    have l2 : w.heap.size < w2.heap.size := by omega
    clear hb2 B2 c0 c1' g1 g1' G1' kd kf
    go_wp2_with fail
    refine (pair_any _).mono ?_
    rintro e w3 ⟨A3, n3, c3, rfl, G3, hb3⟩
    obtain ⟨x0, x1, l3, B3⟩ := box2 hb3
    have D0 := keepBox B3 d0
    have D1 := keepBox B3 d1
    have F0 := keepBox B3 f0
    have F1 := keepBox B3 f1
    have E0 := keepBox B3 C0
    have E1 := keepBox B3 C1
    have HB3 := Lib.hid (below_next HB2.out B3)
    have g3 := g2.keep hb3
    have g3' := g2'.keep hb3
    have G3' := G2.keep hb3
    clear hb3 B3 d0 d1 f0 f1 C0 C1 g2 g2' G2
    go_wp2_with fail
    refine (given_own _ _ _ _ _ _ [[1, 2], [-1]] [-1] _ _ (G3.keep (below_new _ _)) ⟨by omega, by omega⟩ (ints_made _ 3 [-1] rfl (by simp [I64]) (by decide)) (by show _ = _; decide)).mono ?_
    rintro e w4 ⟨A4, n4, c4, rfl, G4', hb4⟩
    have G4 : Grid w4 A4 n4 c4 [[2]] := G4'
    have B4 := (below_box hb4).1
    have hbf := below_alloc (below_new w4 (.cells #[.int .i64 2, .slice A4 n4 c4] 41)) (.cells #[.int .i64 0, .int .i64 0] 24)
    have l4 := B4.size
    have B5 := below_next B4 hbf
    have HF0 := Lib.hid (keepBox B5 F0)
    have HF1 := Lib.hid (keepBox B5 F1)
    have HX0 := Lib.hid (keepBox B5 x0)
    have HX1 := Lib.hid (keepBox B5 x1)
    have HD0 := Lib.hid (keepBox B5 D0)
    have HD1 := Lib.hid (keepBox B5 D1)
    have HE0 := Lib.hid (keepBox B5 E0)
    have HE1 := Lib.hid (keepBox B5 E1)
    have HG5 := Lib.hid (g3.keep B5)
    have HG5' := Lib.hid (g3'.keep B5)
    have HG3 := Lib.hid (G3'.keep B5)
    have HG4 := Lib.hid (G4.keep hbf)
    have HB5 := Lib.hid (below_next HB3.out B5)
    clear hb4 B4 B5 hbf F0 F1 x0 x1 D0 D1 E0 E1 g3 g3' G3' G4 G4' G3
    go_wp2_with fail
    obtain ⟨W, hW⟩ : ∃ W, W = (w4.alloc (.cells #[.int .i64 2, .slice A4 n4 c4] 41)).alloc (.cells #[.int .i64 0, .int .i64 0] 24) := ⟨_, rfl⟩
    have q4 : W.cell? ⟨w4.heap.size, 1, none⟩ = some (.slice A4 n4 c4) := by rw [hW]; simp [go_sem]
    have q5 : W.cell? ⟨w4.heap.size + 1, 0, none⟩ = some (.int .i64 0) := by rw [hW]; simp [go_sem]
    rw [← hW] at HF0 HF1 HX0 HX1 HD0 HD1 HE0 HE1 HG5 HG5' HG3 HG4 HB5 ⊢
    have q0 : W.cell? ⟨w1.heap.size + 1, 0, none⟩ = some (.int .i64 0) ∧ W.cell? ⟨w1.heap.size + 1, 1, none⟩ = some (.int .i64 0) ∧ W.cell? ⟨w2.heap.size, 0, none⟩ = some (.int .i64 0) ∧ W.cell? ⟨w2.heap.size, 1, none⟩ = some (.int .i64 0) ∧ W.cell? ⟨w1.heap.size, 0, none⟩ = some (.int .i64 vars) ∧ W.cell? ⟨w1.heap.size, 1, none⟩ = some (.slice A1 n1 c1) ∧ W.cell? ⟨w.heap.size, 0, none⟩ = some (.int .i64 vars) ∧ W.cell? ⟨w.heap.size, 1, none⟩ = some (.slice A n c) ∧ W.cell? ⟨w4.heap.size + 1, 0, none⟩ = some (.int .i64 0) ∧ W.cell? ⟨w4.heap.size, 1, none⟩ = some (.slice A4 n4 c4) ∧ Below W.heap.size W W := ⟨HF0.out, HF1.out, HX0.out, HX1.out, HD0.out, HD1.out, HE0.out, HE1.out, q5, q4, Below.refl _ _⟩
    have Q0 := Lib.hid q0
    clear hW q0 q4 q5 HF0 HF1 HX0 HX1 HD0 HD1 HE0 HE1
    have vv : (vars == vars) = true := by simp
    go_region_held3 (fun w' => w'.cell? ⟨w1.heap.size + 1, 0, none⟩ = some (.int .i64 0) ∧ w'.cell? ⟨w1.heap.size + 1, 1, none⟩ = some (.int .i64 0) ∧ w'.cell? ⟨w2.heap.size, 0, none⟩ = some (.int .i64 0) ∧ w'.cell? ⟨w2.heap.size, 1, none⟩ = some (.int .i64 0) ∧ w'.cell? ⟨w1.heap.size, 0, none⟩ = some (.int .i64 vars) ∧ w'.cell? ⟨w1.heap.size, 1, none⟩ = some (.slice A1 n1 c1) ∧ w'.cell? ⟨w.heap.size, 0, none⟩ = some (.int .i64 vars) ∧ w'.cell? ⟨w.heap.size, 1, none⟩ = some (.slice A n c) ∧ w'.cell? ⟨w4.heap.size + 1, 0, none⟩ = some (.int .i64 0) ∧ w'.cell? ⟨w4.heap.size, 1, none⟩ = some (.slice A4 n4 c4) ∧ Below W.heap.size W w') (first | exact held10 (by assumption) (by assumption) | exact held10 (by assumption) (below_new _ _) | exact held10 (by assumption) (below_drewN _ _) | exact held10 Q0.out (below_drewN _ 1))
      (first
        | (go_at_call 37; (with_reducible refine (given_ref _ _ _ _ _ _ xss l _ _ ?_ ?_ hn400 HROWS.out).mono ?_); (exact HG5.out.keep (held10_bl (by assumption))); (exact HG5'.out.keep (held10_bl (by assumption))); rintro e w6 ⟨A6, n6, c6, rfl, G6, hb6⟩)
        | (go_at_call 36; (with_reducible refine (cnfs_any _ _ _ _ _ _ (givenF l xss) (givenF l xss) _ _ _ ?_ ?_ true ?_).mono ?_); (exact HG3.out.keep (held10_bl (by assumption))); (exact G6); (show _ = _; rw [vv]; simp [rowsB]); rintro e w7 ⟨rfl, hb7⟩)
        | (go_at_call 38; (with_reducible refine (rows_any _ _ _ _ _ _ [[2]] [[2]] _ ?_ ?_ true ?_).mono ?_); (exact HG4.out.keep (held10_bl (by assumption))); (exact grid1 _ (by simp) (ints_made _ _ [2] rfl (by simp [I64]) (by decide))); rfl; rintro e w8 ⟨rfl, k8, rfl⟩))
    go_wp2_with fail
    go_ret
    exact ⟨rfl, below_next HB5.out (held10_bl (by assumption))⟩
  · have d1 : (r1 != 0) = true := by simpa using hr1
    go_enter Try.func12, Try.ntmps12
    go_wp2_with fail
    refine (given_wrong _ _ _ _ _ _ _ _ _ _ hk hv hk' _ _ hr hr1).mono ?_
    rintro e w1 ⟨rfl, hb1⟩
    obtain ⟨c0, c1, l0, B1⟩ := box2 hb1
    have HB1 := Lib.hid B1
    have g1 := (hk.keep hb1).keep (below_alloc (below_new w1 (.cells #[.int .i64 0, .slice none 0 0] 41)) (.cells #[.int .i64 r1, .int .i64 r2] 24))
    have g1' := (hk'.keep hb1).keep (below_alloc (below_new w1 (.cells #[.int .i64 0, .slice none 0 0] 41)) (.cells #[.int .i64 r1, .int .i64 r2] 24))
    clear hb1 B1 hk hk'
    go_wp2_with fail
    refine (beside_any _ _ _ _ _ _ _ _ _ _ g1 hv g1' _ _ hr).mono ?_
    rintro e w2 ⟨rfl, hb2⟩
    obtain ⟨kd, kf, B2, l1⟩ := two_blks hb2
    have d0 := kd.cell 0
    have d1' := kd.cell 1
    have f0 := kf.cell 0
    have f1 := kf.cell 1
    simp at d0 d1' f0 f1
    have HB2 := Lib.hid (below_next HB1.out B2)
    have l2 : w1.heap.size < w2.heap.size := by omega
    have l3 : w1.heap.size + 1 < w2.heap.size := by omega
    clear hb2 B2 c0 c1 g1 g1' kd kf
    go_wp2_with fail
    refine (none_any _ _ _ _ _ (by omega) true (by rfl)).mono ?_
    rintro e w3 ⟨rfl, hb3⟩
    go_wp2_with fail
    go_ret
    exact ⟨rfl, below_next (below_alloc HB2.out _) hb3⟩
end Go.Proofs.Ytehhhidjgngibaa
