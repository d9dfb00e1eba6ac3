/- The walk of ElimDoes: it returns true. (Printed by wip/tools/elimlaws.py.) -/
import Derived.Test.YtecgmgidfjbamaaElimDo
import Derived.Test.YtecgmgidfjbamaaGoneRef
import Derived.Test.YtecgmgidfjbamaaVarsRef
import Derived.Test.YtecgmgidfjbamaaHeavy
import Derived.Test.YtecgmgidfjbamaaRows2
import Derived.Test.YtecgmgidfjbamaaHolds
import Derived.Deep.RegionHeld3
namespace Go.Proofs.Ytecgmgidfjbamaa
open Go.RowKit
set_option linter.unusedSimpArgs false

/-- 10 cells, kept. -/
theorem held10 {W wa wb : World} {a0 a1 a2 a3 a4 a5 a6 a7 a8 a9 : Addr} {v0 v1 v2 v3 v4 v5 v6 v7 v8 v9 : Value} (h : wa.cell? a0 = some v0 ∧ wa.cell? a1 = some v1 ∧ wa.cell? a2 = some v2 ∧ wa.cell? a3 = some v3 ∧ wa.cell? a4 = some v4 ∧ wa.cell? a5 = some v5 ∧ wa.cell? a6 = some v6 ∧ wa.cell? a7 = some v7 ∧ wa.cell? a8 = some v8 ∧ wa.cell? a9 = some v9 ∧ Below W.heap.size W wa) (hb : Below wa.heap.size wa wb) :
    wb.cell? a0 = some v0 ∧ wb.cell? a1 = some v1 ∧ wb.cell? a2 = some v2 ∧ wb.cell? a3 = some v3 ∧ wb.cell? a4 = some v4 ∧ wb.cell? a5 = some v5 ∧ wb.cell? a6 = some v6 ∧ wb.cell? a7 = some v7 ∧ wb.cell? a8 = some v8 ∧ wb.cell? a9 = some v9 ∧ Below W.heap.size W wb := ⟨keepBox hb h.1, keepBox hb h.2.1, keepBox hb h.2.2.1, keepBox hb h.2.2.2.1, keepBox hb h.2.2.2.2.1, keepBox hb h.2.2.2.2.2.1, keepBox hb h.2.2.2.2.2.2.1, keepBox hb h.2.2.2.2.2.2.2.1, keepBox hb h.2.2.2.2.2.2.2.2.1, keepBox hb h.2.2.2.2.2.2.2.2.2.1, below_next h.2.2.2.2.2.2.2.2.2.2 hb⟩
theorem held10_bl {W wa : World} {a0 a1 a2 a3 a4 a5 a6 a7 a8 a9 : Addr} {v0 v1 v2 v3 v4 v5 v6 v7 v8 v9 : Value} (h : wa.cell? a0 = some v0 ∧ wa.cell? a1 = some v1 ∧ wa.cell? a2 = some v2 ∧ wa.cell? a3 = some v3 ∧ wa.cell? a4 = some v4 ∧ wa.cell? a5 = some v5 ∧ wa.cell? a6 = some v6 ∧ wa.cell? a7 = some v7 ∧ wa.cell? a8 = some v8 ∧ wa.cell? a9 = some v9 ∧ Below W.heap.size W wa) : Below W.heap.size W wa := h.2.2.2.2.2.2.2.2.2.2
theorem elim_pair : doneS 2 [[1, 2], [-1]] [1] = ([[[1, 2], [-1]], [[2]]], 0, 0) := by decide
theorem elim_pair_last : lastS [1] (normF [[1, 2], [-1]]) = [[2]] := by decide

set_option maxHeartbeats 8000000 in
set_option maxRecDepth 100000 in
theorem elimDoes_walk {vars : Int} {A B : Option Addr} {n c m d : Nat} {xss : List (List Int)} {vs : List Int} (w : World) (hv : I64 vars) (h : Grid w A n c xss) (h' : Ints w B m d vs) :
    Calls Try.prog 11 #[.agg #[.int .i64 vars, .slice A n c], .slice B m d] w fun e w' => e = .returned (.bool true) ∧ Below w.heap.size w w' := by
  have hbd := h.bd
  have hbd' := h'.bd
  have hlen := Lib.hid h.len
  have hlv := Lib.hid h'.len
  have G := Lib.hid h
  have HV := Lib.hid h'
  have hn63 : n ≤ 9223372036854775807 := by omega
  obtain ⟨hvy, hhv⟩ : ∃ r, Hid ((decide (40 < vars) || decide (60 < (n : Int))) = r) := ⟨_, rfl⟩
  obtain ⟨R, r1, r2, hR⟩ : ∃ R r1 r2, Hid (doneS vars xss vs = (R, r1, r2)) := ⟨_, _, _, rfl⟩
  clear h h'
  cases hvy
  rotate_left
  · go_enter Try.func11, Try.ntmps11
    go_wp2_with fail
    refine (heavy_any _ _ _ _ _ hn63 _ hhv).mono ?_
    rintro e w1 ⟨rfl, hb1⟩
    obtain ⟨K_c0, B_w1, l_w1⟩ := blk1 hb1
    replace G := Lib.hid (G.out.keep B_w1)
    replace HV := Lib.hid (HV.out.keep B_w1)
    have HB := Lib.hid B_w1
    have K_c := Lib.hid K_c0
    clear hb1 B_w1 K_c0
    have cK_c_0 := K_c.out.cell 0
    have cK_c_1 := K_c.out.cell 1
    simp at cK_c_0 cK_c_1
    have zK_c := K_c.out.lt
    go_wp2_with fail
    go_ret
    exact ⟨rfl, HB.out⟩
  by_cases hm6 : 6 < m
  · have dm : decide ((6 : Int) < (m : Int)) = true := by simp; omega
    go_enter Try.func11, Try.ntmps11
    go_wp2_with fail
    refine (heavy_any _ _ _ _ _ hn63 _ hhv).mono ?_
    rintro e w1 ⟨rfl, hb1⟩
    obtain ⟨K_c0, B_w1, l_w1⟩ := blk1 hb1
    replace G := Lib.hid (G.out.keep B_w1)
    replace HV := Lib.hid (HV.out.keep B_w1)
    have HB := Lib.hid B_w1
    have K_c := Lib.hid K_c0
    clear hb1 B_w1 K_c0
    have cK_c_0 := K_c.out.cell 0
    have cK_c_1 := K_c.out.cell 1
    simp at cK_c_0 cK_c_1
    have zK_c := K_c.out.lt
    go_wp2_with fail
    go_ret
    exact ⟨rfl, HB.out⟩
  have dm : decide ((6 : Int) < (m : Int)) = false := by simp; omega
  by_cases hr1 : r1 = 0
  · subst hr1
    obtain ⟨hRR, hr2, hck, _, hvs, hvr, hgn⟩ := doneS_ok hR.out
    subst hr2
    have HRR := Lib.hid hRR
    have HVR := Lib.hid hvr
    have HGN : Hid (goneF vars vs (normF xss) [normF xss] 0 = (R, m)) := by show _ = _; rw [hgn, hlv.out]
    have hLS : Hid (R[m]? = some (lastS vs (normF xss))) := by show _ = _; rw [hRR, ← hlv.out]; exact chain_last _ _
    have HRL : Hid (R.length = m + 1) := by show _ = _; rw [hRR]; simp [chain_len]; exact hlv.out
    clear hRR hvr hgn
    go_enter Try.func11, Try.ntmps11
    go_wp2_with fail
    refine (heavy_any _ _ _ _ _ hn63 _ hhv).mono ?_
    rintro e w1 ⟨rfl, hb1⟩
    obtain ⟨K_c0, B_w1, l_w1⟩ := blk1 hb1
    replace G := Lib.hid (G.out.keep B_w1)
    replace HV := Lib.hid (HV.out.keep B_w1)
    have HB := Lib.hid B_w1
    have K_c := Lib.hid K_c0
    clear hb1 B_w1 K_c0
    have cK_c_0 := K_c.out.cell 0
    have cK_c_1 := K_c.out.cell 1
    simp at cK_c_0 cK_c_1
    have zK_c := K_c.out.lt
    go_wp2_with fail
    refine (do_own _ _ _ _ _ _ xss vs vars _ G.out hv HV.out R hR).mono ?_
    rintro e w2 ⟨A2, n2, c2, rfl, hO2, hb2⟩
    have B_w2 := hb2
    replace G := Lib.hid (G.out.keep B_w2)
    replace HV := Lib.hid (HV.out.keep B_w2)
    replace K_c := Lib.hid (K_c.out.keep B_w2)
    replace HB := Lib.hid (below_next HB.out B_w2)
    clear hb2 B_w2
    clear cK_c_0 cK_c_1 zK_c
    have cK_c_0 := K_c.out.cell 0
    have cK_c_1 := K_c.out.cell 1
    simp at cK_c_0 cK_c_1
    have zK_c := K_c.out.lt
    have G2 := Lib.hid hO2.grid.clip
    clear hO2
    go_wp2_with fail
    refine (pair_any _).mono ?_
    rintro e w3 ⟨A5, n5, c5, rfl, hG5, hb3⟩
    obtain ⟨K_d0, K_f0, B_w3, l_w3⟩ := two_blks hb3
    replace G := Lib.hid (G.out.keep B_w3)
    replace HV := Lib.hid (HV.out.keep B_w3)
    replace G2 := Lib.hid (G2.out.keep B_w3)
    replace K_c := Lib.hid (K_c.out.keep B_w3)
    replace HB := Lib.hid (below_next HB.out B_w3)
    have K_d := Lib.hid K_d0
    have K_f := Lib.hid K_f0
    clear hb3 B_w3 K_d0 K_f0
    clear cK_c_0 cK_c_1 zK_c
    have cK_c_0 := K_c.out.cell 0
    have cK_c_1 := K_c.out.cell 1
    simp at cK_c_0 cK_c_1
    have zK_c := K_c.out.lt
    have cK_d_0 := K_d.out.cell 0
    have cK_d_1 := K_d.out.cell 1
    simp at cK_d_0 cK_d_1
    have zK_d := K_d.out.lt
    have cK_f_0 := K_f.out.cell 0
    have cK_f_1 := K_f.out.cell 1
    simp at cK_f_0 cK_f_1
    have zK_f := K_f.out.lt
    have GP := Lib.hid hG5
    clear hG5
    go_wp2_with fail
    refine (do_own _ _ _ _ _ _ [[1, 2], [-1]] [1] 2 _ (GP.out.keep (below_new _ _)) ⟨by omega, by omega⟩ (ints_made _ 3 [1] (by simp) (by simp [I64]) (by decide)) _ elim_pair).mono ?_
    rintro e w4 ⟨A6, n6, c6, rfl, hO6, hb4⟩
    rw [elim_pair_last] at hO6
    have hb4' := below_next (below_new _ _) hb4
    clear hb4
    have B_w4 := hb4'
    replace G := Lib.hid (G.out.keep B_w4)
    replace HV := Lib.hid (HV.out.keep B_w4)
    replace G2 := Lib.hid (G2.out.keep B_w4)
    replace GP := Lib.hid (GP.out.keep B_w4)
    replace K_c := Lib.hid (K_c.out.keep B_w4)
    replace K_d := Lib.hid (K_d.out.keep B_w4)
    replace K_f := Lib.hid (K_f.out.keep B_w4)
    replace HB := Lib.hid (below_next HB.out B_w4)
    clear hb4' B_w4
    clear cK_c_0 cK_c_1 zK_c cK_d_0 cK_d_1 zK_d cK_f_0 cK_f_1 zK_f
    have cK_c_0 := K_c.out.cell 0
    have cK_c_1 := K_c.out.cell 1
    simp at cK_c_0 cK_c_1
    have zK_c := K_c.out.lt
    have cK_d_0 := K_d.out.cell 0
    have cK_d_1 := K_d.out.cell 1
    simp at cK_d_0 cK_d_1
    have zK_d := K_d.out.lt
    have cK_f_0 := K_f.out.cell 0
    have cK_f_1 := K_f.out.cell 1
    simp at cK_f_0 cK_f_1
    have zK_f := K_f.out.lt
    have GO := Lib.hid hO6.grid.clip
    clear hO6
    go_wp2_with fail
    refine ((rows_any _ _ _ _ _ _ [[2]] [[2]] _ (GO.out.keep (below_alloc (below_alloc (below_alloc (below_new _ _) _) _) _)) (grid1 26 (by simp) (ints_made _ 3 [2] (by simp) (by simp [I64]) (by decide))) true (by show _ = _; rfl)).mono (fun _ _ hh => hh.v)).mono ?_
    rintro e w5 ⟨rfl, hb5⟩
    have hb5' := below_next (below_alloc (below_alloc (below_alloc (below_new _ _) _) _) _) hb5
    clear hb5
    have B_w5 := hb5'
    replace G := Lib.hid (G.out.keep B_w5)
    replace HV := Lib.hid (HV.out.keep B_w5)
    replace G2 := Lib.hid (G2.out.keep B_w5)
    replace GP := Lib.hid (GP.out.keep B_w5)
    replace GO := Lib.hid (GO.out.keep B_w5)
    replace K_c := Lib.hid (K_c.out.keep B_w5)
    replace K_d := Lib.hid (K_d.out.keep B_w5)
    replace K_f := Lib.hid (K_f.out.keep B_w5)
    replace HB := Lib.hid (below_next HB.out B_w5)
    clear hb5' B_w5
    clear cK_c_0 cK_c_1 zK_c cK_d_0 cK_d_1 zK_d cK_f_0 cK_f_1 zK_f
    have cK_c_0 := K_c.out.cell 0
    have cK_c_1 := K_c.out.cell 1
    simp at cK_c_0 cK_c_1
    have zK_c := K_c.out.lt
    have cK_d_0 := K_d.out.cell 0
    have cK_d_1 := K_d.out.cell 1
    simp at cK_d_0 cK_d_1
    have zK_d := K_d.out.lt
    have cK_f_0 := K_f.out.cell 0
    have cK_f_1 := K_f.out.cell 1
    simp at cK_f_0 cK_f_1
    have zK_f := K_f.out.lt
    go_wp2_with fail
    refine (vars_ref _ _ _ _ _ _ xss vs vars _ G.out hv HV.out (by omega) 0 0 HVR).mono ?_
    rintro e w6 ⟨rfl, hb6⟩
    have B_w6 := hb6
    replace G := Lib.hid (G.out.keep B_w6)
    replace HV := Lib.hid (HV.out.keep B_w6)
    replace G2 := Lib.hid (G2.out.keep B_w6)
    replace GP := Lib.hid (GP.out.keep B_w6)
    replace GO := Lib.hid (GO.out.keep B_w6)
    replace K_c := Lib.hid (K_c.out.keep B_w6)
    replace K_d := Lib.hid (K_d.out.keep B_w6)
    replace K_f := Lib.hid (K_f.out.keep B_w6)
    replace HB := Lib.hid (below_next HB.out B_w6)
    clear hb6 B_w6
    clear cK_c_0 cK_c_1 zK_c cK_d_0 cK_d_1 zK_d cK_f_0 cK_f_1 zK_f
    have cK_c_0 := K_c.out.cell 0
    have cK_c_1 := K_c.out.cell 1
    simp at cK_c_0 cK_c_1
    have zK_c := K_c.out.lt
    have cK_d_0 := K_d.out.cell 0
    have cK_d_1 := K_d.out.cell 1
    simp at cK_d_0 cK_d_1
    have zK_d := K_d.out.lt
    have cK_f_0 := K_f.out.cell 0
    have cK_f_1 := K_f.out.cell 1
    simp at cK_f_0 cK_f_1
    have zK_f := K_f.out.lt
    go_wp2_with fail
    refine (gone_ref _ _ _ _ _ _ xss vs vars _ (G.out.keep (below_new _ _)) hv (HV.out.keep (below_new _ _)) (by omega) hck hvs R m HGN).mono ?_
    rintro e w7 ⟨A7, n7, c7, rfl, hQ7, hb7⟩
    obtain ⟨K_x0, B_w7, l_w7⟩ := blk1 hb7
    replace G := Lib.hid (G.out.keep B_w7)
    replace HV := Lib.hid (HV.out.keep B_w7)
    replace G2 := Lib.hid (G2.out.keep B_w7)
    replace GP := Lib.hid (GP.out.keep B_w7)
    replace GO := Lib.hid (GO.out.keep B_w7)
    replace K_c := Lib.hid (K_c.out.keep B_w7)
    replace K_d := Lib.hid (K_d.out.keep B_w7)
    replace K_f := Lib.hid (K_f.out.keep B_w7)
    replace HB := Lib.hid (below_next HB.out B_w7)
    have K_x := Lib.hid K_x0
    clear hb7 B_w7 K_x0
    clear cK_c_0 cK_c_1 zK_c cK_d_0 cK_d_1 zK_d cK_f_0 cK_f_1 zK_f
    have cK_c_0 := K_c.out.cell 0
    have cK_c_1 := K_c.out.cell 1
    simp at cK_c_0 cK_c_1
    have zK_c := K_c.out.lt
    have cK_d_0 := K_d.out.cell 0
    have cK_d_1 := K_d.out.cell 1
    simp at cK_d_0 cK_d_1
    have zK_d := K_d.out.lt
    have cK_f_0 := K_f.out.cell 0
    have cK_f_1 := K_f.out.cell 1
    simp at cK_f_0 cK_f_1
    have zK_f := K_f.out.lt
    have cK_x_0 := K_x.out.cell 0
    have cK_x_1 := K_x.out.cell 1
    simp at cK_x_0 cK_x_1
    have zK_x := K_x.out.lt
    obtain ⟨gr, X, nx, cx, l', hAe, hgb, hgl, hcx, hX, hlk⟩ := hQ7.round (k := m) (by have h1 := hQ7.len.1; rw [HRL.out] at h1; omega)
    subst hAe
    obtain rfl : l' = lastS vs (normF xss) := by have := hlk.out; rw [hLS.out] at this; cases this; rfl
    have GX := Lib.hid hX.grid
    have hn7 : m < n7 := by have h1 := hQ7.len.1; rw [HRL.out] at h1; omega
    have y1 : (0 : Int) ≤ (m : Int) := by omega
    have y2 : (m : Int) < (n7 : Int) := by omega
    have y3 : decide ((m : Int) < (m : Int)) = false := by simp
    have vv : (vars == vars) = true := by simp
    go_wp2_with fail
    have Q0 := Lib.hid (show w7.cell? ⟨w2.heap.size + 1, 0, none⟩ = some (.int .i64 0) ∧ w7.cell? ⟨w2.heap.size + 1, 1, none⟩ = some (.int .i64 0) ∧ w7.cell? ⟨w6.heap.size, 0, none⟩ = some (.int .i64 0) ∧ w7.cell? ⟨w6.heap.size, 1, none⟩ = some (.int .i64 0) ∧ w7.cell? ⟨w2.heap.size, 0, none⟩ = some (.int .i64 vars) ∧ w7.cell? ⟨w2.heap.size, 1, none⟩ = some (.slice A2 n2 n2) ∧ w7.cell? ⟨w.heap.size, 0, none⟩ = some (.int .i64 vars) ∧ w7.cell? ⟨w.heap.size, 1, none⟩ = some (.slice A n c) ∧ w7.cell? ⟨gr, m, none⟩ = some (.slice X nx cx) ∧ w7.cell? ⟨gr, m, none⟩ = some (.slice X nx cx) ∧ Below w7.heap.size w7 w7 from ⟨cK_f_0, cK_f_1, cK_x_0, cK_x_1, cK_d_0, cK_d_1, cK_c_0, cK_c_1, hcx, hcx, Below.refl _ _⟩)
    clear hcx hX hQ7 hgb hgl
    go_region_held3 (fun w' => w'.cell? ⟨w2.heap.size + 1, 0, none⟩ = some (.int .i64 0) ∧ w'.cell? ⟨w2.heap.size + 1, 1, none⟩ = some (.int .i64 0) ∧ w'.cell? ⟨w6.heap.size, 0, none⟩ = some (.int .i64 0) ∧ w'.cell? ⟨w6.heap.size, 1, none⟩ = some (.int .i64 0) ∧ w'.cell? ⟨w2.heap.size, 0, none⟩ = some (.int .i64 vars) ∧ w'.cell? ⟨w2.heap.size, 1, none⟩ = some (.slice A2 n2 n2) ∧ w'.cell? ⟨w.heap.size, 0, none⟩ = some (.int .i64 vars) ∧ w'.cell? ⟨w.heap.size, 1, none⟩ = some (.slice A n c) ∧ w'.cell? ⟨gr, m, none⟩ = some (.slice X nx cx) ∧ w'.cell? ⟨gr, m, none⟩ = some (.slice X nx cx) ∧ Below w7.heap.size w7 w') (first | exact held10 (by assumption) (by assumption) | exact held10 (by assumption) (below_new _ _) | exact held10 (by assumption) (below_drewN _ _) | exact held10 Q0.out (below_drewN _ 1))
      ((go_at_call 27; (with_reducible refine (cnfs_any _ _ _ _ _ _ (lastS vs (normF xss)) (lastS vs (normF xss)) _ _ _ ?_ ?_ true ?_).mono ?_); (exact G2.out.keep (held10_bl (by assumption))); (exact GX.out.keep (held10_bl (by assumption))); (show _ = _; rw [vv]; simp [rowsB]); rintro e w8 ⟨rfl, hb8⟩))
    all_goals
      go_wp2_with fail
      go_ret
      exact ⟨rfl, below_next HB.out (held10_bl (by assumption))⟩
  · have d1 : (r1 != 0) = true := by simpa using hr1
    have d1' : (r1 == 0) = false := by simpa using hr1
    have e1 : (r1 == r1) = true := by simp
    have e2 : (r2 == r2) = true := by simp
    obtain ⟨_, hno⟩ := doneS_no hR.out hr1
    rcases hno with hvr | ⟨hvr, hck, hvs, rfl, k, rfl, hkm, hgk⟩
    · have HVR : Hid (varsR vars xss vs = (r1, r2)) := hvr
      go_enter Try.func11, Try.ntmps11
      go_wp2_with fail
      refine (heavy_any _ _ _ _ _ hn63 _ hhv).mono ?_
      rintro e w1 ⟨rfl, hb1⟩
      obtain ⟨K_c0, B_w1, l_w1⟩ := blk1 hb1
      replace G := Lib.hid (G.out.keep B_w1)
      replace HV := Lib.hid (HV.out.keep B_w1)
      have HB := Lib.hid B_w1
      have K_c := Lib.hid K_c0
      clear hb1 B_w1 K_c0
      have cK_c_0 := K_c.out.cell 0
      have cK_c_1 := K_c.out.cell 1
      simp at cK_c_0 cK_c_1
      have zK_c := K_c.out.lt
      go_wp2_with fail
      refine (do_bad _ _ _ _ _ _ xss vs vars _ G.out hv HV.out R _ _ hR hr1).mono ?_
      rintro e w2 ⟨rfl, hb2⟩
      have B_w2 := hb2
      replace G := Lib.hid (G.out.keep B_w2)
      replace HV := Lib.hid (HV.out.keep B_w2)
      replace K_c := Lib.hid (K_c.out.keep B_w2)
      replace HB := Lib.hid (below_next HB.out B_w2)
      clear hb2 B_w2
      clear cK_c_0 cK_c_1 zK_c
      have cK_c_0 := K_c.out.cell 0
      have cK_c_1 := K_c.out.cell 1
      simp at cK_c_0 cK_c_1
      have zK_c := K_c.out.lt
      go_wp2_with fail
      refine (pair_any _).mono ?_
      rintro e w3 ⟨A5, n5, c5, rfl, hG5, hb3⟩
      obtain ⟨K_d0, K_f0, B_w3, l_w3⟩ := two_blks hb3
      replace G := Lib.hid (G.out.keep B_w3)
      replace HV := Lib.hid (HV.out.keep B_w3)
      replace K_c := Lib.hid (K_c.out.keep B_w3)
      replace HB := Lib.hid (below_next HB.out B_w3)
      have K_d := Lib.hid K_d0
      have K_f := Lib.hid K_f0
      clear hb3 B_w3 K_d0 K_f0
      clear cK_c_0 cK_c_1 zK_c
      have cK_c_0 := K_c.out.cell 0
      have cK_c_1 := K_c.out.cell 1
      simp at cK_c_0 cK_c_1
      have zK_c := K_c.out.lt
      have cK_d_0 := K_d.out.cell 0
      have cK_d_1 := K_d.out.cell 1
      simp at cK_d_0 cK_d_1
      have zK_d := K_d.out.lt
      have cK_f_0 := K_f.out.cell 0
      have cK_f_1 := K_f.out.cell 1
      simp at cK_f_0 cK_f_1
      have zK_f := K_f.out.lt
      have GP := Lib.hid hG5
      clear hG5
      go_wp2_with fail
      refine (do_own _ _ _ _ _ _ [[1, 2], [-1]] [1] 2 _ (GP.out.keep (below_new _ _)) ⟨by omega, by omega⟩ (ints_made _ 3 [1] (by simp) (by simp [I64]) (by decide)) _ elim_pair).mono ?_
      rintro e w4 ⟨A6, n6, c6, rfl, hO6, hb4⟩
      rw [elim_pair_last] at hO6
      have hb4' := below_next (below_new _ _) hb4
      clear hb4
      have B_w4 := hb4'
      replace G := Lib.hid (G.out.keep B_w4)
      replace HV := Lib.hid (HV.out.keep B_w4)
      replace GP := Lib.hid (GP.out.keep B_w4)
      replace K_c := Lib.hid (K_c.out.keep B_w4)
      replace K_d := Lib.hid (K_d.out.keep B_w4)
      replace K_f := Lib.hid (K_f.out.keep B_w4)
      replace HB := Lib.hid (below_next HB.out B_w4)
      clear hb4' B_w4
      clear cK_c_0 cK_c_1 zK_c cK_d_0 cK_d_1 zK_d cK_f_0 cK_f_1 zK_f
      have cK_c_0 := K_c.out.cell 0
      have cK_c_1 := K_c.out.cell 1
      simp at cK_c_0 cK_c_1
      have zK_c := K_c.out.lt
      have cK_d_0 := K_d.out.cell 0
      have cK_d_1 := K_d.out.cell 1
      simp at cK_d_0 cK_d_1
      have zK_d := K_d.out.lt
      have cK_f_0 := K_f.out.cell 0
      have cK_f_1 := K_f.out.cell 1
      simp at cK_f_0 cK_f_1
      have zK_f := K_f.out.lt
      have GO := Lib.hid hO6.grid.clip
      clear hO6
      go_wp2_with fail
      refine ((rows_any _ _ _ _ _ _ [[2]] [[2]] _ (GO.out.keep (below_alloc (below_alloc (below_alloc (below_new _ _) _) _) _)) (grid1 26 (by simp) (ints_made _ 3 [2] (by simp) (by simp [I64]) (by decide))) true (by show _ = _; rfl)).mono (fun _ _ hh => hh.v)).mono ?_
      rintro e w5 ⟨rfl, hb5⟩
      have hb5' := below_next (below_alloc (below_alloc (below_alloc (below_new _ _) _) _) _) hb5
      clear hb5
      have B_w5 := hb5'
      replace G := Lib.hid (G.out.keep B_w5)
      replace HV := Lib.hid (HV.out.keep B_w5)
      replace GP := Lib.hid (GP.out.keep B_w5)
      replace GO := Lib.hid (GO.out.keep B_w5)
      replace K_c := Lib.hid (K_c.out.keep B_w5)
      replace K_d := Lib.hid (K_d.out.keep B_w5)
      replace K_f := Lib.hid (K_f.out.keep B_w5)
      replace HB := Lib.hid (below_next HB.out B_w5)
      clear hb5' B_w5
      clear cK_c_0 cK_c_1 zK_c cK_d_0 cK_d_1 zK_d cK_f_0 cK_f_1 zK_f
      have cK_c_0 := K_c.out.cell 0
      have cK_c_1 := K_c.out.cell 1
      simp at cK_c_0 cK_c_1
      have zK_c := K_c.out.lt
      have cK_d_0 := K_d.out.cell 0
      have cK_d_1 := K_d.out.cell 1
      simp at cK_d_0 cK_d_1
      have zK_d := K_d.out.lt
      have cK_f_0 := K_f.out.cell 0
      have cK_f_1 := K_f.out.cell 1
      simp at cK_f_0 cK_f_1
      have zK_f := K_f.out.lt
      go_wp2_with fail
      refine (vars_ref _ _ _ _ _ _ xss vs vars _ G.out hv HV.out (by omega) r1 r2 HVR).mono ?_
      rintro e w6 ⟨rfl, hb6⟩
      have B_w6 := hb6
      replace G := Lib.hid (G.out.keep B_w6)
      replace HV := Lib.hid (HV.out.keep B_w6)
      replace GP := Lib.hid (GP.out.keep B_w6)
      replace GO := Lib.hid (GO.out.keep B_w6)
      replace K_c := Lib.hid (K_c.out.keep B_w6)
      replace K_d := Lib.hid (K_d.out.keep B_w6)
      replace K_f := Lib.hid (K_f.out.keep B_w6)
      replace HB := Lib.hid (below_next HB.out B_w6)
      clear hb6 B_w6
      clear cK_c_0 cK_c_1 zK_c cK_d_0 cK_d_1 zK_d cK_f_0 cK_f_1 zK_f
      have cK_c_0 := K_c.out.cell 0
      have cK_c_1 := K_c.out.cell 1
      simp at cK_c_0 cK_c_1
      have zK_c := K_c.out.lt
      have cK_d_0 := K_d.out.cell 0
      have cK_d_1 := K_d.out.cell 1
      simp at cK_d_0 cK_d_1
      have zK_d := K_d.out.lt
      have cK_f_0 := K_f.out.cell 0
      have cK_f_1 := K_f.out.cell 1
      simp at cK_f_0 cK_f_1
      have zK_f := K_f.out.lt
      go_wp2_with fail
      refine (none_any _ _ _ _ _ (by omega) true (by rfl)).mono ?_
      rintro e w7 ⟨rfl, hb7⟩
      obtain ⟨K_x0, B_w7, l_w7⟩ := blk1 hb7
      replace G := Lib.hid (G.out.keep B_w7)
      replace HV := Lib.hid (HV.out.keep B_w7)
      replace GP := Lib.hid (GP.out.keep B_w7)
      replace GO := Lib.hid (GO.out.keep B_w7)
      replace K_c := Lib.hid (K_c.out.keep B_w7)
      replace K_d := Lib.hid (K_d.out.keep B_w7)
      replace K_f := Lib.hid (K_f.out.keep B_w7)
      replace HB := Lib.hid (below_next HB.out B_w7)
      have K_x := Lib.hid K_x0
      clear hb7 B_w7 K_x0
      clear cK_c_0 cK_c_1 zK_c cK_d_0 cK_d_1 zK_d cK_f_0 cK_f_1 zK_f
      have cK_c_0 := K_c.out.cell 0
      have cK_c_1 := K_c.out.cell 1
      simp at cK_c_0 cK_c_1
      have zK_c := K_c.out.lt
      have cK_d_0 := K_d.out.cell 0
      have cK_d_1 := K_d.out.cell 1
      simp at cK_d_0 cK_d_1
      have zK_d := K_d.out.lt
      have cK_f_0 := K_f.out.cell 0
      have cK_f_1 := K_f.out.cell 1
      simp at cK_f_0 cK_f_1
      have zK_f := K_f.out.lt
      have cK_x_0 := K_x.out.cell 0
      have cK_x_1 := K_x.out.cell 1
      simp at cK_x_0 cK_x_1
      have zK_x := K_x.out.lt
      go_wp2_with fail
      go_ret
      exact ⟨rfl, HB.out⟩
    · have HVR : Hid (varsR vars xss vs = (0, 0)) := hvr
      obtain ⟨RR, hRR⟩ : ∃ RR, Hid (goneF vars vs (normF xss) [normF xss] 0 = (RR, k)) := ⟨_, Prod.ext rfl hgk⟩
      have hkm' : k < m := by have := hlv.out; omega
      have z1 : (k : Int) < (m : Int) := by omega
      clear hgk hvr
      go_enter Try.func11, Try.ntmps11
      go_wp2_with fail
      refine (heavy_any _ _ _ _ _ hn63 _ hhv).mono ?_
      rintro e w1 ⟨rfl, hb1⟩
      obtain ⟨K_c0, B_w1, l_w1⟩ := blk1 hb1
      replace G := Lib.hid (G.out.keep B_w1)
      replace HV := Lib.hid (HV.out.keep B_w1)
      have HB := Lib.hid B_w1
      have K_c := Lib.hid K_c0
      clear hb1 B_w1 K_c0
      have cK_c_0 := K_c.out.cell 0
      have cK_c_1 := K_c.out.cell 1
      simp at cK_c_0 cK_c_1
      have zK_c := K_c.out.lt
      go_wp2_with fail
      refine (do_bad _ _ _ _ _ _ xss vs vars _ G.out hv HV.out R _ _ hR hr1).mono ?_
      rintro e w2 ⟨rfl, hb2⟩
      have B_w2 := hb2
      replace G := Lib.hid (G.out.keep B_w2)
      replace HV := Lib.hid (HV.out.keep B_w2)
      replace K_c := Lib.hid (K_c.out.keep B_w2)
      replace HB := Lib.hid (below_next HB.out B_w2)
      clear hb2 B_w2
      clear cK_c_0 cK_c_1 zK_c
      have cK_c_0 := K_c.out.cell 0
      have cK_c_1 := K_c.out.cell 1
      simp at cK_c_0 cK_c_1
      have zK_c := K_c.out.lt
      go_wp2_with fail
      refine (pair_any _).mono ?_
      rintro e w3 ⟨A5, n5, c5, rfl, hG5, hb3⟩
      obtain ⟨K_d0, K_f0, B_w3, l_w3⟩ := two_blks hb3
      replace G := Lib.hid (G.out.keep B_w3)
      replace HV := Lib.hid (HV.out.keep B_w3)
      replace K_c := Lib.hid (K_c.out.keep B_w3)
      replace HB := Lib.hid (below_next HB.out B_w3)
      have K_d := Lib.hid K_d0
      have K_f := Lib.hid K_f0
      clear hb3 B_w3 K_d0 K_f0
      clear cK_c_0 cK_c_1 zK_c
      have cK_c_0 := K_c.out.cell 0
      have cK_c_1 := K_c.out.cell 1
      simp at cK_c_0 cK_c_1
      have zK_c := K_c.out.lt
      have cK_d_0 := K_d.out.cell 0
      have cK_d_1 := K_d.out.cell 1
      simp at cK_d_0 cK_d_1
      have zK_d := K_d.out.lt
      have cK_f_0 := K_f.out.cell 0
      have cK_f_1 := K_f.out.cell 1
      simp at cK_f_0 cK_f_1
      have zK_f := K_f.out.lt
      have GP := Lib.hid hG5
      clear hG5
      go_wp2_with fail
      refine (do_own _ _ _ _ _ _ [[1, 2], [-1]] [1] 2 _ (GP.out.keep (below_new _ _)) ⟨by omega, by omega⟩ (ints_made _ 3 [1] (by simp) (by simp [I64]) (by decide)) _ elim_pair).mono ?_
      rintro e w4 ⟨A6, n6, c6, rfl, hO6, hb4⟩
      rw [elim_pair_last] at hO6
      have hb4' := below_next (below_new _ _) hb4
      clear hb4
      have B_w4 := hb4'
      replace G := Lib.hid (G.out.keep B_w4)
      replace HV := Lib.hid (HV.out.keep B_w4)
      replace GP := Lib.hid (GP.out.keep B_w4)
      replace K_c := Lib.hid (K_c.out.keep B_w4)
      replace K_d := Lib.hid (K_d.out.keep B_w4)
      replace K_f := Lib.hid (K_f.out.keep B_w4)
      replace HB := Lib.hid (below_next HB.out B_w4)
      clear hb4' B_w4
      clear cK_c_0 cK_c_1 zK_c cK_d_0 cK_d_1 zK_d cK_f_0 cK_f_1 zK_f
      have cK_c_0 := K_c.out.cell 0
      have cK_c_1 := K_c.out.cell 1
      simp at cK_c_0 cK_c_1
      have zK_c := K_c.out.lt
      have cK_d_0 := K_d.out.cell 0
      have cK_d_1 := K_d.out.cell 1
      simp at cK_d_0 cK_d_1
      have zK_d := K_d.out.lt
      have cK_f_0 := K_f.out.cell 0
      have cK_f_1 := K_f.out.cell 1
      simp at cK_f_0 cK_f_1
      have zK_f := K_f.out.lt
      have GO := Lib.hid hO6.grid.clip
      clear hO6
      go_wp2_with fail
      refine ((rows_any _ _ _ _ _ _ [[2]] [[2]] _ (GO.out.keep (below_alloc (below_alloc (below_alloc (below_new _ _) _) _) _)) (grid1 26 (by simp) (ints_made _ 3 [2] (by simp) (by simp [I64]) (by decide))) true (by show _ = _; rfl)).mono (fun _ _ hh => hh.v)).mono ?_
      rintro e w5 ⟨rfl, hb5⟩
      have hb5' := below_next (below_alloc (below_alloc (below_alloc (below_new _ _) _) _) _) hb5
      clear hb5
      have B_w5 := hb5'
      replace G := Lib.hid (G.out.keep B_w5)
      replace HV := Lib.hid (HV.out.keep B_w5)
      replace GP := Lib.hid (GP.out.keep B_w5)
      replace GO := Lib.hid (GO.out.keep B_w5)
      replace K_c := Lib.hid (K_c.out.keep B_w5)
      replace K_d := Lib.hid (K_d.out.keep B_w5)
      replace K_f := Lib.hid (K_f.out.keep B_w5)
      replace HB := Lib.hid (below_next HB.out B_w5)
      clear hb5' B_w5
      clear cK_c_0 cK_c_1 zK_c cK_d_0 cK_d_1 zK_d cK_f_0 cK_f_1 zK_f
      have cK_c_0 := K_c.out.cell 0
      have cK_c_1 := K_c.out.cell 1
      simp at cK_c_0 cK_c_1
      have zK_c := K_c.out.lt
      have cK_d_0 := K_d.out.cell 0
      have cK_d_1 := K_d.out.cell 1
      simp at cK_d_0 cK_d_1
      have zK_d := K_d.out.lt
      have cK_f_0 := K_f.out.cell 0
      have cK_f_1 := K_f.out.cell 1
      simp at cK_f_0 cK_f_1
      have zK_f := K_f.out.lt
      go_wp2_with fail
      refine (vars_ref _ _ _ _ _ _ xss vs vars _ G.out hv HV.out (by omega) 0 0 HVR).mono ?_
      rintro e w6 ⟨rfl, hb6⟩
      have L26 : w2.heap.size + 1 < w6.heap.size := by have h1 := K_f.out.lt; have h2 := hb6.size; omega
      have L06 : w.heap.size ≤ w6.heap.size := by have h1 := HB.out.size; have h2 := hb6.size; omega
      have B_w6 := hb6
      replace G := Lib.hid (G.out.keep B_w6)
      replace HV := Lib.hid (HV.out.keep B_w6)
      replace GP := Lib.hid (GP.out.keep B_w6)
      replace GO := Lib.hid (GO.out.keep B_w6)
      replace K_c := Lib.hid (K_c.out.keep B_w6)
      replace K_d := Lib.hid (K_d.out.keep B_w6)
      replace K_f := Lib.hid (K_f.out.keep B_w6)
      replace HB := Lib.hid (below_next HB.out B_w6)
      clear hb6 B_w6
      clear cK_c_0 cK_c_1 zK_c cK_d_0 cK_d_1 zK_d cK_f_0 cK_f_1 zK_f
      have cK_c_0 := K_c.out.cell 0
      have cK_c_1 := K_c.out.cell 1
      simp at cK_c_0 cK_c_1
      have zK_c := K_c.out.lt
      have cK_d_0 := K_d.out.cell 0
      have cK_d_1 := K_d.out.cell 1
      simp at cK_d_0 cK_d_1
      have zK_d := K_d.out.lt
      have cK_f_0 := K_f.out.cell 0
      have cK_f_1 := K_f.out.cell 1
      simp at cK_f_0 cK_f_1
      have zK_f := K_f.out.lt
      go_wp2_with fail
      refine (gone_ref _ _ _ _ _ _ xss vs vars _ (G.out.keep (below_new _ _)) hv (HV.out.keep (below_new _ _)) (by omega) hck hvs RR k hRR).mono ?_
      rintro e w7 ⟨A7, n7, c7, rfl, hQ7, hb7⟩
      obtain ⟨K_x0, B_w7, l_w7⟩ := blk1 hb7
      replace G := Lib.hid (G.out.keep B_w7)
      replace HV := Lib.hid (HV.out.keep B_w7)
      replace GP := Lib.hid (GP.out.keep B_w7)
      replace GO := Lib.hid (GO.out.keep B_w7)
      replace K_c := Lib.hid (K_c.out.keep B_w7)
      replace K_d := Lib.hid (K_d.out.keep B_w7)
      replace K_f := Lib.hid (K_f.out.keep B_w7)
      replace HB := Lib.hid (below_next HB.out B_w7)
      have K_x := Lib.hid K_x0
      clear hb7 B_w7 K_x0
      clear cK_c_0 cK_c_1 zK_c cK_d_0 cK_d_1 zK_d cK_f_0 cK_f_1 zK_f
      have cK_c_0 := K_c.out.cell 0
      have cK_c_1 := K_c.out.cell 1
      simp at cK_c_0 cK_c_1
      have zK_c := K_c.out.lt
      have cK_d_0 := K_d.out.cell 0
      have cK_d_1 := K_d.out.cell 1
      simp at cK_d_0 cK_d_1
      have zK_d := K_d.out.lt
      have cK_f_0 := K_f.out.cell 0
      have cK_f_1 := K_f.out.cell 1
      simp at cK_f_0 cK_f_1
      have zK_f := K_f.out.lt
      have cK_x_0 := K_x.out.cell 0
      have cK_x_1 := K_x.out.cell 1
      simp at cK_x_0 cK_x_1
      have zK_x := K_x.out.lt
      have fK_x_0 := K_x.out.frozen 0
      have fK_x_1 := K_x.out.frozen 1
      clear hQ7
      have hsz := HB.out.size
      have l67 : w2.heap.size + 1 < w6.heap.size := L26
      have KXy := Lib.hid (show Blk ((w7.setCell ⟨w6.heap.size, 0, none⟩ (.int .i64 10)).setCell ⟨w6.heap.size, 1, none⟩ (.int .i64 k)) w6.heap.size 28 #[.int .i64 10, .int .i64 k] from by have := (K_x.out.set_ 0 (.int .i64 10)).set_ 1 (.int .i64 k); simpa using this)
      have KFy := Lib.hid ((K_f.out.far (p := ⟨w6.heap.size, 0, none⟩) (by simp; omega) (.int .i64 10)).far (p := ⟨w6.heap.size, 1, none⟩) (by simp; omega) (.int .i64 k))
      have KDy := Lib.hid ((K_d.out.far (p := ⟨w6.heap.size, 0, none⟩) (by simp; omega) (.int .i64 10)).far (p := ⟨w6.heap.size, 1, none⟩) (by simp; omega) (.int .i64 k))
      have u0 := KXy.out.cell 0
      have u1 := KXy.out.cell 1
      have u2 := KFy.out.cell 0
      have u3 := KFy.out.cell 1
      have u4 := KDy.out.cell 0
      have u5 := KDy.out.cell 1
      simp only [List.getElem?_toArray, List.getElem?_cons_zero, List.getElem?_cons_succ] at u0 u1 u2 u3 u4 u5
      have HBy := Lib.hid (below_put2 HB.out (g := w6.heap.size) (by omega) (.int .i64 10) (.int .i64 k))
      go_wp2_with fail
      refine (none_any _ _ _ _ _ (by omega) true (by rfl)).mono ?_
      rintro e w8 ⟨rfl, hb8⟩
      have HB8 := Lib.hid (below_next HBy.out hb8)
      clear hb8
      go_wp2_with fail
      go_ret
      exact ⟨rfl, HB8.out⟩
end Go.Proofs.Ytecgmgidfjbamaa
