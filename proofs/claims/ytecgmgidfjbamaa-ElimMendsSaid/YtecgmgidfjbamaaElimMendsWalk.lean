/- The walk of ElimMends: it returns true. (Printed by wip/tools/elimmends.py.) -/
import Derived.Test.YtecgmgidfjbamaaElimMend
import Derived.Test.YtecgmgidfjbamaaGoneRef
import Derived.Test.YtecgmgidfjbamaaVarsRef
import Derived.Test.YtecgmgidfjbamaaHeavy
import Derived.Test.YtecgmgidfjbamaaHolds
namespace Go.Proofs.Ytecgmgidfjbamaa
open Go.RowKit
set_option linter.unusedSimpArgs false

theorem mend_pair : mendS 2 [[1, 2], [-1]] [1] [true, true] = ([false, true], 0, 0) := by decide

set_option maxHeartbeats 8000000 in
set_option maxRecDepth 100000 in
theorem elimMends_walk {vars : Int} {A B C : Option Addr} {n c m d p f : Nat} {xss : List (List Int)} {vs : List Int} {a : List Bool} (w : World) (hv : I64 vars) (h : Grid w A n c xss) (h' : Ints w B m d vs) (ha : Bools w C p f a) :
    Calls Try.prog 12 #[.agg #[.int .i64 vars, .slice A n c], .slice B m d, .slice C p f] w fun e w' => e = .returned (.bool true) ∧ Below w.heap.size w w' := by
  have hbd := h.bd
  have hbd' := h'.bd
  have hbda := ha.bd
  have hlen := Lib.hid h.len
  have hlv := Lib.hid h'.len
  have hla := Lib.hid ha.len
  have G := Lib.hid h
  have HV := Lib.hid h'
  have HA := Lib.hid ha
  have hn63 : n ≤ 9223372036854775807 := by omega
  obtain ⟨hvy, hhv⟩ : ∃ r, Hid ((decide (40 < vars) || decide (60 < (n : Int))) = r) := ⟨_, rfl⟩
  obtain ⟨R, r1, r2, hR⟩ : ∃ R r1 r2, Hid (doneS vars xss vs = (R, r1, r2)) := ⟨_, _, _, rfl⟩
  obtain ⟨Z, z1, z2, hZ⟩ : ∃ Z z1 z2, Hid (mendS vars xss vs a = (Z, z1, z2)) := ⟨_, _, _, rfl⟩
  clear h h' ha
  cases hvy
  rotate_left
  · go_enter Try.func12, Try.ntmps12
    go_wp2_with fail
    refine (heavy_any _ _ _ _ _ hn63 _ hhv).mono ?_
    rintro e w1 ⟨rfl, hb1⟩
    obtain ⟨K_c0, B_w1, l_w1⟩ := blk1 hb1
    replace G := Lib.hid (G.out.keep B_w1)
    replace HV := Lib.hid (HV.out.keep B_w1)
    replace HA := Lib.hid (HA.out.keep B_w1)
    have HB := Lib.hid B_w1
    have K_c := Lib.hid K_c0
    clear hb1 B_w1 K_c0
    have cK_c_0 := K_c.out.cell 0
    have cK_c_1 := K_c.out.cell 1
    simp at cK_c_0 cK_c_1
    have zK_c := K_c.out.lt
    go_wp2_with fail
    go_ret
    exact ⟨rfl, HB.out⟩
  by_cases hm6 : 6 < m
  · have dm : decide ((6 : Int) < (m : Int)) = true := by simp; omega
    go_enter Try.func12, Try.ntmps12
    go_wp2_with fail
    refine (heavy_any _ _ _ _ _ hn63 _ hhv).mono ?_
    rintro e w1 ⟨rfl, hb1⟩
    obtain ⟨K_c0, B_w1, l_w1⟩ := blk1 hb1
    replace G := Lib.hid (G.out.keep B_w1)
    replace HV := Lib.hid (HV.out.keep B_w1)
    replace HA := Lib.hid (HA.out.keep B_w1)
    have HB := Lib.hid B_w1
    have K_c := Lib.hid K_c0
    clear hb1 B_w1 K_c0
    have cK_c_0 := K_c.out.cell 0
    have cK_c_1 := K_c.out.cell 1
    simp at cK_c_0 cK_c_1
    have zK_c := K_c.out.lt
    go_wp2_with fail
    go_ret
    exact ⟨rfl, HB.out⟩
  have dm : decide ((6 : Int) < (m : Int)) = false := by simp; omega
  by_cases hr1 : r1 = 0
  · subst hr1
    obtain ⟨hRR, hr2, hck, _, hvs, hvr, hgn⟩ := doneS_ok hR.out
    subst hr2
    obtain ⟨_, v0, v1, _, hrows⟩ := checkC_ok hck
    have HTD : Hid (∀ x ∈ normF xss, Lits vars x) := fun x hx => ((norm_tidy hrows).2 x hx).2
    have HVS := Lib.hid hvs
    have HRR := Lib.hid hRR
    have HVR := Lib.hid hvr
    have HGN : Hid (goneF vars vs (normF xss) [normF xss] 0 = (R, m)) := by show _ = _; rw [hgn, hlv.out]
    have hLS : Hid (R[m]? = some (lastS vs (normF xss))) := by show _ = _; rw [hRR, ← hlv.out]; exact chain_last _ _
    have HRL : Hid (R.length = m + 1) := by show _ = _; rw [hRR]; simp [chain_len]; exact hlv.out
    have y3 : decide ((m : Int) < (m : Int)) = false := by simp
    have hZ2 : Hid ((if (p : Int) ≠ vars then ([], (9 : Int), (-1 : Int)) else if allB (lastS vs (normF xss)) a = false then ([], 11, 0) else (mendF vs R a, 0, 0)) = (Z, z1, z2)) := by have := hZ.out; rw [mendS, hR.out, if_neg (by simp), hla.out] at this; exact this
    clear hRR hvr hgn hrows
    by_cases hpv : (p : Int) ≠ vars
    · have d2 : ((p : Int) != vars) = true := by simpa using hpv
      obtain ⟨rfl, rfl, rfl⟩ : [] = Z ∧ 9 = z1 ∧ -1 = z2 := by have := hZ2.out; rw [if_pos hpv] at this; simpa using this
      go_enter Try.func12, Try.ntmps12
      go_wp2_with fail
      refine (heavy_any _ _ _ _ _ hn63 _ hhv).mono ?_
      rintro e w1 ⟨rfl, hb1⟩
      obtain ⟨K_c0, B_w1, l_w1⟩ := blk1 hb1
      replace G := Lib.hid (G.out.keep B_w1)
      replace HV := Lib.hid (HV.out.keep B_w1)
      replace HA := Lib.hid (HA.out.keep B_w1)
      have HB := Lib.hid B_w1
      have K_c := Lib.hid K_c0
      clear hb1 B_w1 K_c0
      have cK_c_0 := K_c.out.cell 0
      have cK_c_1 := K_c.out.cell 1
      simp at cK_c_0 cK_c_1
      have zK_c := K_c.out.lt
      go_wp2_with fail
      refine (mend_any _ _ _ _ _ _ _ _ _ xss vs a vars _ G.out hv HV.out HA.out [] 9 (-1) hZ).mono ?_
      rintro e w2 ⟨A2, n2, c2, rfl, hO2, hb2⟩
      have B_w2 := hb2
      replace G := Lib.hid (G.out.keep B_w2)
      replace HV := Lib.hid (HV.out.keep B_w2)
      replace HA := Lib.hid (HA.out.keep B_w2)
      replace K_c := Lib.hid (K_c.out.keep B_w2)
      replace HB := Lib.hid (below_next HB.out B_w2)
      clear hb2 B_w2
      clear cK_c_0 cK_c_1 zK_c
      have cK_c_0 := K_c.out.cell 0
      have cK_c_1 := K_c.out.cell 1
      simp at cK_c_0 cK_c_1
      have zK_c := K_c.out.lt
      obtain rfl : n2 = 0 := by have := hO2.len; simpa using this.symm
      clear hO2
      go_wp2_with fail
      refine (pair_any _).mono ?_
      rintro e w3 ⟨A5, n5, c5, rfl, hG5, hb3⟩
      obtain ⟨K_f0, B_w3, l_w3⟩ := blk1 hb3
      replace G := Lib.hid (G.out.keep B_w3)
      replace HV := Lib.hid (HV.out.keep B_w3)
      replace HA := Lib.hid (HA.out.keep B_w3)
      replace K_c := Lib.hid (K_c.out.keep B_w3)
      replace HB := Lib.hid (below_next HB.out B_w3)
      have K_f := Lib.hid K_f0
      clear hb3 B_w3 K_f0
      clear cK_c_0 cK_c_1 zK_c
      have cK_c_0 := K_c.out.cell 0
      have cK_c_1 := K_c.out.cell 1
      simp at cK_c_0 cK_c_1
      have zK_c := K_c.out.lt
      have cK_f_0 := K_f.out.cell 0
      have cK_f_1 := K_f.out.cell 1
      simp at cK_f_0 cK_f_1
      have zK_f := K_f.out.lt
      have GP := Lib.hid hG5
      clear hG5
      go_wp2_with fail
      refine (mend_any _ _ _ _ _ _ _ _ _ [[1, 2], [-1]] [1] [true, true] 2 _ (GP.out.keep (below_alloc (below_new _ _) _)) ⟨by omega, by omega⟩ ((ints_made _ 3 [1] (by simp) (by simp [I64]) (by decide)).keep (below_new _ _)) (bools_made _ 4 [true, true] (by simp) (by decide)) [false, true] 0 0 mend_pair).mono ?_
      rintro e w4 ⟨A6, n6, c6, rfl, hO6, hb4⟩
      have hb4' := below_next (below_alloc (below_new _ _) _) hb4
      clear hb4
      have B_w4 := hb4'
      replace G := Lib.hid (G.out.keep B_w4)
      replace HV := Lib.hid (HV.out.keep B_w4)
      replace HA := Lib.hid (HA.out.keep B_w4)
      replace GP := Lib.hid (GP.out.keep B_w4)
      replace K_c := Lib.hid (K_c.out.keep B_w4)
      replace K_f := Lib.hid (K_f.out.keep B_w4)
      replace HB := Lib.hid (below_next HB.out B_w4)
      clear hb4' B_w4
      clear cK_c_0 cK_c_1 zK_c cK_f_0 cK_f_1 zK_f
      have cK_c_0 := K_c.out.cell 0
      have cK_c_1 := K_c.out.cell 1
      simp at cK_c_0 cK_c_1
      have zK_c := K_c.out.lt
      have cK_f_0 := K_f.out.cell 0
      have cK_f_1 := K_f.out.cell 1
      simp at cK_f_0 cK_f_1
      have zK_f := K_f.out.lt
      obtain rfl : n6 = 2 := by have := hO6.len; simpa using this.symm
      obtain ⟨gq, ub, hA6, _, hl6, hc60, _, hub0⟩ := hO6.at_ (k := 0) (by omega)
      subst hA6
      obtain ⟨_, ub1, hA6, _, _, hc61, _, hub1⟩ := hO6.at_ (k := 1) (by omega)
      cases hA6
      obtain rfl : ub = .bool false := by have := hub0.out; simpa using this.symm
      obtain rfl : ub1 = .bool true := by have := hub1.out; simpa using this.symm
      clear hO6 hub0 hub1
      go_wp2_with fail
      refine (vars_ref _ _ _ _ _ _ xss vs vars _ (G.out.keep (below_new _ _)) hv (HV.out.keep (below_new _ _)) (by omega) 0 0 HVR).mono ?_
      rintro e w6 ⟨rfl, hb6⟩
      clear hc60 hc61
      have L26 : w2.heap.size < w6.heap.size := by have h1 := zK_f; have h2 := hb6.size; simp at h2; omega
      have L06 : w.heap.size ≤ w6.heap.size := by have h1 := HB.out.size; have h2 := hb6.size; simp at h2; omega
      have LC6 : w.heap.size < w6.heap.size := by have h1 := zK_c; have h2 := hb6.size; simp at h2; omega
      obtain ⟨K_g0, B_w6, l_w6⟩ := blk1 hb6
      replace G := Lib.hid (G.out.keep B_w6)
      replace HV := Lib.hid (HV.out.keep B_w6)
      replace HA := Lib.hid (HA.out.keep B_w6)
      replace GP := Lib.hid (GP.out.keep B_w6)
      replace K_c := Lib.hid (K_c.out.keep B_w6)
      replace K_f := Lib.hid (K_f.out.keep B_w6)
      replace HB := Lib.hid (below_next HB.out B_w6)
      have K_g := Lib.hid K_g0
      clear hb6 B_w6 K_g0
      clear cK_c_0 cK_c_1 zK_c cK_f_0 cK_f_1 zK_f
      have cK_c_0 := K_c.out.cell 0
      have cK_c_1 := K_c.out.cell 1
      simp at cK_c_0 cK_c_1
      have zK_c := K_c.out.lt
      have cK_f_0 := K_f.out.cell 0
      have cK_f_1 := K_f.out.cell 1
      simp at cK_f_0 cK_f_1
      have zK_f := K_f.out.lt
      have cK_g_0 := K_g.out.cell 0
      have cK_g_1 := K_g.out.cell 1
      simp at cK_g_0 cK_g_1
      have zK_g := K_g.out.lt
      go_wp2_with fail
      refine (gone_ref _ _ _ _ _ _ xss vs vars _ (G.out.keep (below_new _ _)) hv (HV.out.keep (below_new _ _)) (by omega) hck hvs R m HGN).mono ?_
      rintro e w7 ⟨A7, n7, c7, rfl, hQ7, hb7⟩
      obtain ⟨K_x0, B_w7, l_w7⟩ := blk1 hb7
      replace G := Lib.hid (G.out.keep B_w7)
      replace HV := Lib.hid (HV.out.keep B_w7)
      replace HA := Lib.hid (HA.out.keep B_w7)
      replace GP := Lib.hid (GP.out.keep B_w7)
      replace K_c := Lib.hid (K_c.out.keep B_w7)
      replace K_f := Lib.hid (K_f.out.keep B_w7)
      replace K_g := Lib.hid (K_g.out.keep B_w7)
      replace HB := Lib.hid (below_next HB.out B_w7)
      have K_x := Lib.hid K_x0
      clear hb7 B_w7 K_x0
      clear cK_c_0 cK_c_1 zK_c cK_f_0 cK_f_1 zK_f cK_g_0 cK_g_1 zK_g
      have cK_c_0 := K_c.out.cell 0
      have cK_c_1 := K_c.out.cell 1
      simp at cK_c_0 cK_c_1
      have zK_c := K_c.out.lt
      have cK_f_0 := K_f.out.cell 0
      have cK_f_1 := K_f.out.cell 1
      simp at cK_f_0 cK_f_1
      have zK_f := K_f.out.lt
      have cK_g_0 := K_g.out.cell 0
      have cK_g_1 := K_g.out.cell 1
      simp at cK_g_0 cK_g_1
      have zK_g := K_g.out.lt
      have cK_x_0 := K_x.out.cell 0
      have cK_x_1 := K_x.out.cell 1
      simp at cK_x_0 cK_x_1
      have zK_x := K_x.out.lt
      have fK_x_0 := K_x.out.frozen 0
      have fK_x_1 := K_x.out.frozen 1
      clear hQ7
      have KXy := Lib.hid (show Blk ((w7.setCell ⟨w6.heap.size, 0, none⟩ (.int .i64 9)).setCell ⟨w6.heap.size, 1, none⟩ (.int .i64 (-1))) w6.heap.size 28 #[.int .i64 9, .int .i64 (-1)] from by have := (K_x.out.set_ 0 (.int .i64 9)).set_ 1 (.int .i64 (-1)); simpa using this)
      have KFy := Lib.hid ((K_f.out.far (p := ⟨w6.heap.size, 0, none⟩) (by simp; omega) (.int .i64 9)).far (p := ⟨w6.heap.size, 1, none⟩) (by simp; omega) (.int .i64 (-1)))
      have KCy := Lib.hid ((K_c.out.far (p := ⟨w6.heap.size, 0, none⟩) (by simp; omega) (.int .i64 9)).far (p := ⟨w6.heap.size, 1, none⟩) (by simp; omega) (.int .i64 (-1)))
      have u0 := KXy.out.cell 0
      have u1 := KXy.out.cell 1
      have u2 := KFy.out.cell 0
      have u3 := KFy.out.cell 1
      have u4 := KCy.out.cell 0
      have u5 := KCy.out.cell 1
      simp only [List.getElem?_toArray, List.getElem?_cons_zero, List.getElem?_cons_succ] at u0 u1 u2 u3 u4 u5
      have HBy := Lib.hid (below_put2 HB.out (g := w6.heap.size) (by omega) (.int .i64 9) (.int .i64 (-1)))
      go_wp2_with fail
      go_ret
      exact ⟨rfl, HBy.out⟩
    · have hpv : (p : Int) = vars := by omega
      have d2 : ((p : Int) != vars) = false := by simpa using hpv
      obtain ⟨r, hr⟩ : ∃ r, Hid (allB (lastS vs (normF xss)) a = r) := ⟨_, rfl⟩
      have hZ3 : Hid ((if r = false then ([], (11 : Int), (0 : Int)) else (mendF vs R a, 0, 0)) = (Z, z1, z2)) := by have := hZ2.out; rw [if_neg (by simpa using hpv), hr.out] at this; exact this
      have HLL : Hid (∀ l ∈ R, ∀ x ∈ l, InLits p x) := by rw [HRR.out]; exact fun l hl x hx => (chain_lits vs _ HTD.out l hl x hx).inLits hpv
      cases r
      · obtain ⟨rfl, rfl, rfl⟩ : [] = Z ∧ 11 = z1 ∧ 0 = z2 := by have := hZ3.out; rw [if_pos rfl] at this; simpa using this
        go_enter Try.func12, Try.ntmps12
        go_wp2_with fail
        refine (heavy_any _ _ _ _ _ hn63 _ hhv).mono ?_
        rintro e w1 ⟨rfl, hb1⟩
        obtain ⟨K_c0, B_w1, l_w1⟩ := blk1 hb1
        replace G := Lib.hid (G.out.keep B_w1)
        replace HV := Lib.hid (HV.out.keep B_w1)
        replace HA := Lib.hid (HA.out.keep B_w1)
        have HB := Lib.hid B_w1
        have K_c := Lib.hid K_c0
        clear hb1 B_w1 K_c0
        have cK_c_0 := K_c.out.cell 0
        have cK_c_1 := K_c.out.cell 1
        simp at cK_c_0 cK_c_1
        have zK_c := K_c.out.lt
        go_wp2_with fail
        refine (mend_any _ _ _ _ _ _ _ _ _ xss vs a vars _ G.out hv HV.out HA.out [] 11 0 hZ).mono ?_
        rintro e w2 ⟨A2, n2, c2, rfl, hO2, hb2⟩
        have B_w2 := hb2
        replace G := Lib.hid (G.out.keep B_w2)
        replace HV := Lib.hid (HV.out.keep B_w2)
        replace HA := Lib.hid (HA.out.keep B_w2)
        replace K_c := Lib.hid (K_c.out.keep B_w2)
        replace HB := Lib.hid (below_next HB.out B_w2)
        clear hb2 B_w2
        clear cK_c_0 cK_c_1 zK_c
        have cK_c_0 := K_c.out.cell 0
        have cK_c_1 := K_c.out.cell 1
        simp at cK_c_0 cK_c_1
        have zK_c := K_c.out.lt
        obtain rfl : n2 = 0 := by have := hO2.len; simpa using this.symm
        clear hO2
        go_wp2_with fail
        refine (pair_any _).mono ?_
        rintro e w3 ⟨A5, n5, c5, rfl, hG5, hb3⟩
        obtain ⟨K_f0, B_w3, l_w3⟩ := blk1 hb3
        replace G := Lib.hid (G.out.keep B_w3)
        replace HV := Lib.hid (HV.out.keep B_w3)
        replace HA := Lib.hid (HA.out.keep B_w3)
        replace K_c := Lib.hid (K_c.out.keep B_w3)
        replace HB := Lib.hid (below_next HB.out B_w3)
        have K_f := Lib.hid K_f0
        clear hb3 B_w3 K_f0
        clear cK_c_0 cK_c_1 zK_c
        have cK_c_0 := K_c.out.cell 0
        have cK_c_1 := K_c.out.cell 1
        simp at cK_c_0 cK_c_1
        have zK_c := K_c.out.lt
        have cK_f_0 := K_f.out.cell 0
        have cK_f_1 := K_f.out.cell 1
        simp at cK_f_0 cK_f_1
        have zK_f := K_f.out.lt
        have GP := Lib.hid hG5
        clear hG5
        go_wp2_with fail
        refine (mend_any _ _ _ _ _ _ _ _ _ [[1, 2], [-1]] [1] [true, true] 2 _ (GP.out.keep (below_alloc (below_new _ _) _)) ⟨by omega, by omega⟩ ((ints_made _ 3 [1] (by simp) (by simp [I64]) (by decide)).keep (below_new _ _)) (bools_made _ 4 [true, true] (by simp) (by decide)) [false, true] 0 0 mend_pair).mono ?_
        rintro e w4 ⟨A6, n6, c6, rfl, hO6, hb4⟩
        have hb4' := below_next (below_alloc (below_new _ _) _) hb4
        clear hb4
        have B_w4 := hb4'
        replace G := Lib.hid (G.out.keep B_w4)
        replace HV := Lib.hid (HV.out.keep B_w4)
        replace HA := Lib.hid (HA.out.keep B_w4)
        replace GP := Lib.hid (GP.out.keep B_w4)
        replace K_c := Lib.hid (K_c.out.keep B_w4)
        replace K_f := Lib.hid (K_f.out.keep B_w4)
        replace HB := Lib.hid (below_next HB.out B_w4)
        clear hb4' B_w4
        clear cK_c_0 cK_c_1 zK_c cK_f_0 cK_f_1 zK_f
        have cK_c_0 := K_c.out.cell 0
        have cK_c_1 := K_c.out.cell 1
        simp at cK_c_0 cK_c_1
        have zK_c := K_c.out.lt
        have cK_f_0 := K_f.out.cell 0
        have cK_f_1 := K_f.out.cell 1
        simp at cK_f_0 cK_f_1
        have zK_f := K_f.out.lt
        obtain rfl : n6 = 2 := by have := hO6.len; simpa using this.symm
        obtain ⟨gq, ub, hA6, _, hl6, hc60, _, hub0⟩ := hO6.at_ (k := 0) (by omega)
        subst hA6
        obtain ⟨_, ub1, hA6, _, _, hc61, _, hub1⟩ := hO6.at_ (k := 1) (by omega)
        cases hA6
        obtain rfl : ub = .bool false := by have := hub0.out; simpa using this.symm
        obtain rfl : ub1 = .bool true := by have := hub1.out; simpa using this.symm
        clear hO6 hub0 hub1
        go_wp2_with fail
        refine (vars_ref _ _ _ _ _ _ xss vs vars _ (G.out.keep (below_new _ _)) hv (HV.out.keep (below_new _ _)) (by omega) 0 0 HVR).mono ?_
        rintro e w6 ⟨rfl, hb6⟩
        clear hc60 hc61
        have L26 : w2.heap.size < w6.heap.size := by have h1 := zK_f; have h2 := hb6.size; simp at h2; omega
        have L06 : w.heap.size ≤ w6.heap.size := by have h1 := HB.out.size; have h2 := hb6.size; simp at h2; omega
        have LC6 : w.heap.size < w6.heap.size := by have h1 := zK_c; have h2 := hb6.size; simp at h2; omega
        obtain ⟨K_g0, B_w6, l_w6⟩ := blk1 hb6
        replace G := Lib.hid (G.out.keep B_w6)
        replace HV := Lib.hid (HV.out.keep B_w6)
        replace HA := Lib.hid (HA.out.keep B_w6)
        replace GP := Lib.hid (GP.out.keep B_w6)
        replace K_c := Lib.hid (K_c.out.keep B_w6)
        replace K_f := Lib.hid (K_f.out.keep B_w6)
        replace HB := Lib.hid (below_next HB.out B_w6)
        have K_g := Lib.hid K_g0
        clear hb6 B_w6 K_g0
        clear cK_c_0 cK_c_1 zK_c cK_f_0 cK_f_1 zK_f
        have cK_c_0 := K_c.out.cell 0
        have cK_c_1 := K_c.out.cell 1
        simp at cK_c_0 cK_c_1
        have zK_c := K_c.out.lt
        have cK_f_0 := K_f.out.cell 0
        have cK_f_1 := K_f.out.cell 1
        simp at cK_f_0 cK_f_1
        have zK_f := K_f.out.lt
        have cK_g_0 := K_g.out.cell 0
        have cK_g_1 := K_g.out.cell 1
        simp at cK_g_0 cK_g_1
        have zK_g := K_g.out.lt
        go_wp2_with fail
        refine (gone_ref _ _ _ _ _ _ xss vs vars _ (G.out.keep (below_new _ _)) hv (HV.out.keep (below_new _ _)) (by omega) hck hvs R m HGN).mono ?_
        rintro e w7 ⟨A7, n7, c7, rfl, hQ7, hb7⟩
        obtain ⟨K_x0, B_w7, l_w7⟩ := blk1 hb7
        replace G := Lib.hid (G.out.keep B_w7)
        replace HV := Lib.hid (HV.out.keep B_w7)
        replace HA := Lib.hid (HA.out.keep B_w7)
        replace GP := Lib.hid (GP.out.keep B_w7)
        replace K_c := Lib.hid (K_c.out.keep B_w7)
        replace K_f := Lib.hid (K_f.out.keep B_w7)
        replace K_g := Lib.hid (K_g.out.keep B_w7)
        replace HB := Lib.hid (below_next HB.out B_w7)
        have K_x := Lib.hid K_x0
        clear hb7 B_w7 K_x0
        clear cK_c_0 cK_c_1 zK_c cK_f_0 cK_f_1 zK_f cK_g_0 cK_g_1 zK_g
        have cK_c_0 := K_c.out.cell 0
        have cK_c_1 := K_c.out.cell 1
        simp at cK_c_0 cK_c_1
        have zK_c := K_c.out.lt
        have cK_f_0 := K_f.out.cell 0
        have cK_f_1 := K_f.out.cell 1
        simp at cK_f_0 cK_f_1
        have zK_f := K_f.out.lt
        have cK_g_0 := K_g.out.cell 0
        have cK_g_1 := K_g.out.cell 1
        simp at cK_g_0 cK_g_1
        have zK_g := K_g.out.lt
        have cK_x_0 := K_x.out.cell 0
        have cK_x_1 := K_x.out.cell 1
        simp at cK_x_0 cK_x_1
        have zK_x := K_x.out.lt
        obtain ⟨gr, X, nx, cx, l', hAe, hgb, hgl, hcx, hX, hlk⟩ := hQ7.round (k := m) (by have h1 := hQ7.len.1; rw [HRL.out] at h1; omega)
        subst hAe
        obtain rfl : l' = lastS vs (normF xss) := by have := hlk.out; rw [hLS.out] at this; cases this; rfl
        have GX := Lib.hid hX.grid
        have hn7 : m < n7 := by have h1 := hQ7.len.1; rw [HRL.out] at h1; omega
        have y1 : (0 : Int) ≤ (m : Int) := by omega
        have y2 : (m : Int) < (n7 : Int) := by omega
        clear hQ7 hX hgb
        go_wp2_with fail
        refine ((all_ref _ _ _ _ _ _ (lastS vs (normF xss)) a _ GX.out HA.out (HLL.out _ (List.mem_of_getElem? hLS.out)) false hr).mono (fun _ _ hh => hh.v)).mono ?_
        rintro e w8 ⟨rfl, hb8⟩
        clear hcx hgl GX
        have B_w8 := hb8
        replace G := Lib.hid (G.out.keep B_w8)
        replace HV := Lib.hid (HV.out.keep B_w8)
        replace HA := Lib.hid (HA.out.keep B_w8)
        replace GP := Lib.hid (GP.out.keep B_w8)
        replace K_c := Lib.hid (K_c.out.keep B_w8)
        replace K_f := Lib.hid (K_f.out.keep B_w8)
        replace K_g := Lib.hid (K_g.out.keep B_w8)
        replace K_x := Lib.hid (K_x.out.keep B_w8)
        replace HB := Lib.hid (below_next HB.out B_w8)
        clear hb8 B_w8
        clear cK_c_0 cK_c_1 zK_c cK_f_0 cK_f_1 zK_f cK_g_0 cK_g_1 zK_g cK_x_0 cK_x_1 zK_x
        have cK_c_0 := K_c.out.cell 0
        have cK_c_1 := K_c.out.cell 1
        simp at cK_c_0 cK_c_1
        have zK_c := K_c.out.lt
        have cK_f_0 := K_f.out.cell 0
        have cK_f_1 := K_f.out.cell 1
        simp at cK_f_0 cK_f_1
        have zK_f := K_f.out.lt
        have cK_g_0 := K_g.out.cell 0
        have cK_g_1 := K_g.out.cell 1
        simp at cK_g_0 cK_g_1
        have zK_g := K_g.out.lt
        have cK_x_0 := K_x.out.cell 0
        have cK_x_1 := K_x.out.cell 1
        simp at cK_x_0 cK_x_1
        have zK_x := K_x.out.lt
        have fK_x_0 := K_x.out.frozen 0
        have fK_x_1 := K_x.out.frozen 1
        have KXy := Lib.hid (show Blk ((w8.setCell ⟨w6.heap.size, 0, none⟩ (.int .i64 11)).setCell ⟨w6.heap.size, 1, none⟩ (.int .i64 0)) w6.heap.size 28 #[.int .i64 11, .int .i64 0] from by have := (K_x.out.set_ 0 (.int .i64 11)).set_ 1 (.int .i64 0); simpa using this)
        have KFy := Lib.hid ((K_f.out.far (p := ⟨w6.heap.size, 0, none⟩) (by simp; omega) (.int .i64 11)).far (p := ⟨w6.heap.size, 1, none⟩) (by simp; omega) (.int .i64 0))
        have KCy := Lib.hid ((K_c.out.far (p := ⟨w6.heap.size, 0, none⟩) (by simp; omega) (.int .i64 11)).far (p := ⟨w6.heap.size, 1, none⟩) (by simp; omega) (.int .i64 0))
        have u0 := KXy.out.cell 0
        have u1 := KXy.out.cell 1
        have u2 := KFy.out.cell 0
        have u3 := KFy.out.cell 1
        have u4 := KCy.out.cell 0
        have u5 := KCy.out.cell 1
        simp only [List.getElem?_toArray, List.getElem?_cons_zero, List.getElem?_cons_succ] at u0 u1 u2 u3 u4 u5
        have HBy := Lib.hid (below_put2 HB.out (g := w6.heap.size) (by omega) (.int .i64 11) (.int .i64 0))
        go_wp2_with fail
        go_ret
        exact ⟨rfl, HBy.out⟩
      · obtain ⟨rfl, rfl, rfl⟩ : mendF vs R a = Z ∧ 0 = z1 ∧ 0 = z2 := by have := hZ3.out; rw [if_neg (by simp)] at this; simpa using this
        obtain ⟨i0, hi0, hz0, hz1, hz2⟩ := info_parts bool_info
        have hp120 : p ≤ 120 := by omega
        have d4 : ((0 : Int) != (0 : Int)) = false := by simp
        go_enter Try.func12, Try.ntmps12
        go_wp2_with fail
        refine (heavy_any _ _ _ _ _ hn63 _ hhv).mono ?_
        rintro e w1 ⟨rfl, hb1⟩
        obtain ⟨K_c0, B_w1, l_w1⟩ := blk1 hb1
        replace G := Lib.hid (G.out.keep B_w1)
        replace HV := Lib.hid (HV.out.keep B_w1)
        replace HA := Lib.hid (HA.out.keep B_w1)
        have HB := Lib.hid B_w1
        have K_c := Lib.hid K_c0
        clear hb1 B_w1 K_c0
        have cK_c_0 := K_c.out.cell 0
        have cK_c_1 := K_c.out.cell 1
        simp at cK_c_0 cK_c_1
        have zK_c := K_c.out.lt
        go_wp2_with fail
        refine (mend_any _ _ _ _ _ _ _ _ _ xss vs a vars _ G.out hv HV.out HA.out (mendF vs R a) 0 0 hZ).mono ?_
        rintro e w2 ⟨A2, n2, c2, rfl, hO2, hb2⟩
        have B_w2 := hb2
        replace G := Lib.hid (G.out.keep B_w2)
        replace HV := Lib.hid (HV.out.keep B_w2)
        replace HA := Lib.hid (HA.out.keep B_w2)
        replace K_c := Lib.hid (K_c.out.keep B_w2)
        replace HB := Lib.hid (below_next HB.out B_w2)
        clear hb2 B_w2
        clear cK_c_0 cK_c_1 zK_c
        have cK_c_0 := K_c.out.cell 0
        have cK_c_1 := K_c.out.cell 1
        simp at cK_c_0 cK_c_1
        have zK_c := K_c.out.lt
        obtain rfl : p = n2 := by have h1 := hO2.len; rw [List.length_map, mendF_len, hla.out] at h1; exact h1
        have hs2 := hO2.sl
        have HZ := Lib.hid (show Bools w2 A2 p c2 (mendF vs R a) from hs2)
        have hbz := HZ.out.bd
        clear hO2 hs2
        go_wp2_with fail
        refine (pair_any _).mono ?_
        rintro e w3 ⟨A5, n5, c5, rfl, hG5, hb3⟩
        obtain ⟨K_f0, B_w3, l_w3⟩ := blk1 hb3
        replace G := Lib.hid (G.out.keep B_w3)
        replace HV := Lib.hid (HV.out.keep B_w3)
        replace HA := Lib.hid (HA.out.keep B_w3)
        replace HZ := Lib.hid (HZ.out.keep B_w3)
        replace K_c := Lib.hid (K_c.out.keep B_w3)
        replace HB := Lib.hid (below_next HB.out B_w3)
        have K_f := Lib.hid K_f0
        clear hb3 B_w3 K_f0
        clear cK_c_0 cK_c_1 zK_c
        have cK_c_0 := K_c.out.cell 0
        have cK_c_1 := K_c.out.cell 1
        simp at cK_c_0 cK_c_1
        have zK_c := K_c.out.lt
        have cK_f_0 := K_f.out.cell 0
        have cK_f_1 := K_f.out.cell 1
        simp at cK_f_0 cK_f_1
        have zK_f := K_f.out.lt
        have GP := Lib.hid hG5
        clear hG5
        go_wp2_with fail
        refine (mend_any _ _ _ _ _ _ _ _ _ [[1, 2], [-1]] [1] [true, true] 2 _ (GP.out.keep (below_alloc (below_new _ _) _)) ⟨by omega, by omega⟩ ((ints_made _ 3 [1] (by simp) (by simp [I64]) (by decide)).keep (below_new _ _)) (bools_made _ 4 [true, true] (by simp) (by decide)) [false, true] 0 0 mend_pair).mono ?_
        rintro e w4 ⟨A6, n6, c6, rfl, hO6, hb4⟩
        have hb4' := below_next (below_alloc (below_new _ _) _) hb4
        clear hb4
        have B_w4 := hb4'
        replace G := Lib.hid (G.out.keep B_w4)
        replace HV := Lib.hid (HV.out.keep B_w4)
        replace HA := Lib.hid (HA.out.keep B_w4)
        replace HZ := Lib.hid (HZ.out.keep B_w4)
        replace GP := Lib.hid (GP.out.keep B_w4)
        replace K_c := Lib.hid (K_c.out.keep B_w4)
        replace K_f := Lib.hid (K_f.out.keep B_w4)
        replace HB := Lib.hid (below_next HB.out B_w4)
        clear hb4' B_w4
        clear cK_c_0 cK_c_1 zK_c cK_f_0 cK_f_1 zK_f
        have cK_c_0 := K_c.out.cell 0
        have cK_c_1 := K_c.out.cell 1
        simp at cK_c_0 cK_c_1
        have zK_c := K_c.out.lt
        have cK_f_0 := K_f.out.cell 0
        have cK_f_1 := K_f.out.cell 1
        simp at cK_f_0 cK_f_1
        have zK_f := K_f.out.lt
        obtain rfl : n6 = 2 := by have := hO6.len; simpa using this.symm
        obtain ⟨gq, ub, hA6, _, hl6, hc60, _, hub0⟩ := hO6.at_ (k := 0) (by omega)
        subst hA6
        obtain ⟨_, ub1, hA6, _, _, hc61, _, hub1⟩ := hO6.at_ (k := 1) (by omega)
        cases hA6
        obtain rfl : ub = .bool false := by have := hub0.out; simpa using this.symm
        obtain rfl : ub1 = .bool true := by have := hub1.out; simpa using this.symm
        clear hO6 hub0 hub1
        go_wp2_with fail
        refine (vars_ref _ _ _ _ _ _ xss vs vars _ (G.out.keep (below_new _ _)) hv (HV.out.keep (below_new _ _)) (by omega) 0 0 HVR).mono ?_
        rintro e w6 ⟨rfl, hb6⟩
        clear hc60 hc61
        have L26 : w2.heap.size < w6.heap.size := by have h1 := zK_f; have h2 := hb6.size; simp at h2; omega
        have L06 : w.heap.size ≤ w6.heap.size := by have h1 := HB.out.size; have h2 := hb6.size; simp at h2; omega
        have LC6 : w.heap.size < w6.heap.size := by have h1 := zK_c; have h2 := hb6.size; simp at h2; omega
        obtain ⟨K_g0, B_w6, l_w6⟩ := blk1 hb6
        replace G := Lib.hid (G.out.keep B_w6)
        replace HV := Lib.hid (HV.out.keep B_w6)
        replace HA := Lib.hid (HA.out.keep B_w6)
        replace HZ := Lib.hid (HZ.out.keep B_w6)
        replace GP := Lib.hid (GP.out.keep B_w6)
        replace K_c := Lib.hid (K_c.out.keep B_w6)
        replace K_f := Lib.hid (K_f.out.keep B_w6)
        replace HB := Lib.hid (below_next HB.out B_w6)
        have K_g := Lib.hid K_g0
        clear hb6 B_w6 K_g0
        clear cK_c_0 cK_c_1 zK_c cK_f_0 cK_f_1 zK_f
        have cK_c_0 := K_c.out.cell 0
        have cK_c_1 := K_c.out.cell 1
        simp at cK_c_0 cK_c_1
        have zK_c := K_c.out.lt
        have cK_f_0 := K_f.out.cell 0
        have cK_f_1 := K_f.out.cell 1
        simp at cK_f_0 cK_f_1
        have zK_f := K_f.out.lt
        have cK_g_0 := K_g.out.cell 0
        have cK_g_1 := K_g.out.cell 1
        simp at cK_g_0 cK_g_1
        have zK_g := K_g.out.lt
        go_wp2_with fail
        refine (gone_ref _ _ _ _ _ _ xss vs vars _ (G.out.keep (below_new _ _)) hv (HV.out.keep (below_new _ _)) (by omega) hck hvs R m HGN).mono ?_
        rintro e w7 ⟨A7, n7, c7, rfl, hQ7, hb7⟩
        obtain ⟨K_x0, B_w7, l_w7⟩ := blk1 hb7
        replace G := Lib.hid (G.out.keep B_w7)
        replace HV := Lib.hid (HV.out.keep B_w7)
        replace HA := Lib.hid (HA.out.keep B_w7)
        replace HZ := Lib.hid (HZ.out.keep B_w7)
        replace GP := Lib.hid (GP.out.keep B_w7)
        replace K_c := Lib.hid (K_c.out.keep B_w7)
        replace K_f := Lib.hid (K_f.out.keep B_w7)
        replace K_g := Lib.hid (K_g.out.keep B_w7)
        replace HB := Lib.hid (below_next HB.out B_w7)
        have K_x := Lib.hid K_x0
        clear hb7 B_w7 K_x0
        clear cK_c_0 cK_c_1 zK_c cK_f_0 cK_f_1 zK_f cK_g_0 cK_g_1 zK_g
        have cK_c_0 := K_c.out.cell 0
        have cK_c_1 := K_c.out.cell 1
        simp at cK_c_0 cK_c_1
        have zK_c := K_c.out.lt
        have cK_f_0 := K_f.out.cell 0
        have cK_f_1 := K_f.out.cell 1
        simp at cK_f_0 cK_f_1
        have zK_f := K_f.out.lt
        have cK_g_0 := K_g.out.cell 0
        have cK_g_1 := K_g.out.cell 1
        simp at cK_g_0 cK_g_1
        have zK_g := K_g.out.lt
        have cK_x_0 := K_x.out.cell 0
        have cK_x_1 := K_x.out.cell 1
        simp at cK_x_0 cK_x_1
        have zK_x := K_x.out.lt
        have Q7 := Lib.hid hQ7
        obtain ⟨gr, X, nx, cx, l', hAe, hgb, hgl, hcx, hX, hlk⟩ := hQ7.round (k := m) (by have h1 := hQ7.len.1; rw [HRL.out] at h1; omega)
        subst hAe
        obtain rfl : l' = lastS vs (normF xss) := by have := hlk.out; rw [hLS.out] at this; cases this; rfl
        have GX := Lib.hid hX.grid
        have hn7 : m < n7 := by have h1 := hQ7.len.1; rw [HRL.out] at h1; omega
        have y1 : (0 : Int) ≤ (m : Int) := by omega
        have y2 : (m : Int) < (n7 : Int) := by omega
        clear hQ7 hX hgb
        go_wp2_with fail
        refine ((all_ref _ _ _ _ _ _ (lastS vs (normF xss)) a _ GX.out HA.out (HLL.out _ (List.mem_of_getElem? hLS.out)) true hr).mono (fun _ _ hh => hh.v)).mono ?_
        rintro e w8 ⟨rfl, hb8⟩
        clear hcx hgl GX
        have B_w8 := hb8
        replace G := Lib.hid (G.out.keep B_w8)
        replace HV := Lib.hid (HV.out.keep B_w8)
        replace HA := Lib.hid (HA.out.keep B_w8)
        replace HZ := Lib.hid (HZ.out.keep B_w8)
        replace GP := Lib.hid (GP.out.keep B_w8)
        replace Q7 := Lib.hid (Q7.out.keep B_w8)
        replace K_c := Lib.hid (K_c.out.keep B_w8)
        replace K_f := Lib.hid (K_f.out.keep B_w8)
        replace K_g := Lib.hid (K_g.out.keep B_w8)
        replace K_x := Lib.hid (K_x.out.keep B_w8)
        replace HB := Lib.hid (below_next HB.out B_w8)
        clear hb8 B_w8
        clear cK_c_0 cK_c_1 zK_c cK_f_0 cK_f_1 zK_f cK_g_0 cK_g_1 zK_g cK_x_0 cK_x_1 zK_x
        have cK_c_0 := K_c.out.cell 0
        have cK_c_1 := K_c.out.cell 1
        simp at cK_c_0 cK_c_1
        have zK_c := K_c.out.lt
        have cK_f_0 := K_f.out.cell 0
        have cK_f_1 := K_f.out.cell 1
        simp at cK_f_0 cK_f_1
        have zK_f := K_f.out.lt
        have cK_g_0 := K_g.out.cell 0
        have cK_g_1 := K_g.out.cell 1
        simp at cK_g_0 cK_g_1
        have zK_g := K_g.out.lt
        have cK_x_0 := K_x.out.cell 0
        have cK_x_1 := K_x.out.cell 1
        simp at cK_x_0 cK_x_1
        have zK_x := K_x.out.lt
        have HAK := Lib.hid (Bools.keep HA.out (below_new w8 (.cells #[] 4)))
        have HB8 := Lib.hid HB.out
        go_wp2_with (first
          | (at_builtin
             refine wpList_append_sl _ rfl (.tmp 111) (.tmp 112) _ rfl w8.heap.size 4 i0 _ 1 Try.underlying38 hi0 hz0 hz1 hz2 rfl (some ⟨w8.heap.size, 0, none⟩) 0 0 [] rfl (own_empty _ _ _ rfl (Nat.le_refl _)) C p f _ rfl HAK.out (bools_one _) (by simp only [maxLen]; omega) (by omega) (by simp) ?_
             intro A9 c9 w9 hown hg hat))

        have O9 := Lib.hid (show Own 4 w9 w8.heap.size A9 p c9 (a.map Value.bool) from by simpa using hown)
        have B9 := Lib.hid (below_grown (below_new _ _) (own_empty 4 w8 w8.heap.size rfl (Nat.le_refl _)) (Nat.le_refl _) hg)
        clear hown hg hat
        clear cK_c_0 cK_c_1 zK_c cK_f_0 cK_f_1 zK_f cK_g_0 cK_g_1 zK_g cK_x_0 cK_x_1 zK_x
        have hc9 := O9.out.sl.le
        have hc5 := O9.out.sl.cap
        unfold maxLen at hc5
        have hw8 := HB8.out.size
        have HPV := Lib.hid hpv
        have hm63 : (m : Int) ≤ 9223372036854775807 := by omega
        have hn71 : m + 1 = n7 := by have h1 := Q7.out.len.1; rw [HRL.out] at h1; exact h1
        clear hpv d2 HB
        go_loopw [15] (fun s wr => ∃ k : Nat, k ≤ m ∧ s = .int .i64 ((k : Int) - 1) ∧ Hid (Own 4 wr w8.heap.size A9 p c9 ((mendF (vs.drop k) (R.drop k) a).map Value.bool)) ∧ Hid (Below w8.heap.size w8 wr)) (fun s _ => (intOf s + 1).toNat)
        case atStart => exact ⟨m, Nat.le_refl _, rfl, by have := O9.out; rw [List.drop_of_length_le (by rw [hlv.out]; omega)]; exact this, B9.out⟩
        case round =>
          clear O9 B9
          obtain ⟨k, hk, rfl, hO, hbl⟩ := hrel
          have hwr := hbl.out.size
          by_cases hlt : 0 < k
          · obtain ⟨j, rfl⟩ : ∃ j, k = j + 1 := ⟨k - 1, by omega⟩
            obtain ⟨b, off, v, hBe, hb, hcv, u1, u2, hvk⟩ := (HV.out.keep hbl.out).round (k := j) (by omega)
            subst hBe
            obtain ⟨g', X5, nx5, cx5, l5, hAe, hgb, hgl, hcx, hX, hlk⟩ := (Q7.out.keep hbl.out).round (k := j) (by omega)
            cases hAe
            have hvb := HVS.out v (List.mem_of_getElem? hvk.out)
            have hpv' := HPV.out
            obtain ⟨u, hu⟩ : ∃ u : Nat, v = (u : Int) + 1 := ⟨(v - 1).toNat, by omega⟩
            have hun : u < p := by omega
            have hva : v.natAbs - 1 = u := by omega
            clear hpv'
            obtain ⟨g2, ub, hA4, hg2, hl2, hc2, hfr, hub⟩ := hO.out.at_ hun
            subst hA4
            obtain ⟨bb, hbb⟩ : ∃ bb, Hid (mendF (vs.drop (j + 1)) (R.drop (j + 1)) a = bb) := ⟨_, rfl⟩
            rw [hbb.out] at hO
            have x1 : ((j + 1 : Nat) : Int) - 1 = (j : Int) := by omega
            have x2 : (0 : Int) ≤ (j : Int) := by omega
            have x3 : (j : Int) < (m : Int) := by omega
            have x4 : v - 1 = (u : Int) := by omega
            have x5 : (0 : Int) ≤ (u : Int) := by omega
            have x6 : (u : Int) < (p : Int) := by omega
            have x7 : (j : Int) < (n7 : Int) := by omega
            have xw : IntKind.i64.wrap (u : Int) = (u : Int) := IntWalk.i64_in _ (by omega)
            rw [x1]
            obtain ⟨w5x, hw5⟩ : ∃ w5x : World, w5x = wr.setCell ⟨g2, u, none⟩ (.bool false) := ⟨_, rfl⟩
            have BL5 : Hid (Below w8.heap.size w8 w5x) := by rw [hw5]; exact hbl.out.setCell (p := ⟨g2, u, none⟩) hg2 _
            have O5 : Hid (Own 4 w5x w8.heap.size (some ⟨g2, 0, none⟩) p c9 ((bb.set u false).map Value.bool)) := by rw [hw5]; have := hO.out.set_ u (.bool false); rw [List.map_set]; exact this
            have HW5 := Lib.hid hw5
            obtain ⟨r5, hr5⟩ : ∃ r5, Hid (allB l5 (bb.set u false) = r5) := ⟨_, rfl⟩
            have HXl := Lib.hid (HLL.out l5 (List.mem_of_getElem? hlk.out))
            clear hw5 hX hcx hgl hgb
            go_wp2_with fail
            rw [← HW5.out]
            clear hb hcv
            obtain ⟨b', off', v', hBe, hb, hcv, -, -, hvk'⟩ := (HV.out.keep BL5.out).round (k := j) (by omega)
            cases hBe
            obtain rfl : v = v' := by have := hvk'.out; rw [hvk.out] at this; cases this; rfl
            obtain ⟨g'', X6, nx6, cx6, l6, hAe, hgb, hgl, hcx, hX, hlk'⟩ := (Q7.out.keep BL5.out).round (k := j) (by omega)
            cases hAe
            obtain rfl : l6 = l5 := by have := hlk'.out; rw [hlk.out] at this; cases this; rfl
            have HX6 := Lib.hid hX.grid
            have hb6 := hX.grid.bd
            clear hX hvk' hlk'
            have hneb : g2 ≠ b := fun e => by subst e; obtain ⟨b9, off9, e9, hlt9, _⟩ := HV.out.sl.at_ (by omega); cases e9; omega
            have hneg : g2 ≠ gr := fun e => by subst e; obtain ⟨g9, _, _, _, _, e9, _, hl9, _⟩ := Q7.out.round (k := j) (by omega); cases e9; omega
            have hS : w5x.drew.cell? ⟨b, off + j, none⟩ = some (.int .i64 v) ∧ w5x.drew.cell? ⟨gr, j, none⟩ = some (.slice X6 nx6 cx6) := ⟨keepBox (below_drewN w5x 1) hcv, keepBox (below_drewN w5x 1) hcx⟩
            refine wp_region_tail (fun w' => w'.cell? ⟨b, off + j, none⟩ = some (.int .i64 v) ∧ w'.cell? ⟨gr, j, none⟩ = some (.slice X6 nx6 cx6)) [] (by kernel_rfl) ?_
            refine take0 (i := 0) (oi := _) (v := ?_) rfl (by kernel_rfl) (by kernel_rfl) (by kernel_rfl) (fun _ _ _ h => h) rfl (Or.inl ⟨by rfl, ?_⟩) (fun _ => hS) ?_
            rotate_left
            · intro w0; go_simp; with_reducible rfl
            (try simp only [Act.put, List.setIfInBounds_toArray, List.set_cons_zero, List.set_cons_succ])
            refine take0 (i := 1) (oi := _) (v := ?_) rfl (by kernel_rfl) (by kernel_rfl) (by kernel_rfl) (fun _ _ _ h => h) rfl (Or.inl ⟨by rfl, ?_⟩) (fun _ => hS) ?_
            rotate_left
            · intro w0; go_simp; with_reducible rfl
            (try simp only [Act.put, List.setIfInBounds_toArray, List.set_cons_zero, List.set_cons_succ])
            refine take0 (i := 2) (oi := _) (v := ?_) rfl (by kernel_rfl) (by kernel_rfl) (by kernel_rfl) (fun _ _ _ h => h) rfl (Or.inl ⟨by rfl, ?_⟩) (fun _ => hS) ?_
            rotate_left
            · intro w0; go_simp; with_reducible rfl
            (try simp only [Act.put, List.setIfInBounds_toArray, List.set_cons_zero, List.set_cons_succ])
            refine take0 (i := 3) (oi := _) (v := ?_) rfl (by kernel_rfl) (by kernel_rfl) (by kernel_rfl) (fun _ _ _ h => h) rfl (Or.inl ⟨by rfl, ?_⟩) (fun _ => hS) ?_
            rotate_left
            · intro w0; go_simp; with_reducible rfl
            (try simp only [Act.put, List.setIfInBounds_toArray, List.set_cons_zero, List.set_cons_succ])
            refine takeS (i := 4) (oi := _) (v := ?_) rfl (by kernel_rfl) (by kernel_rfl) (by kernel_rfl) (fun _ _ _ h => h) rfl (by kernel_rfl) (by kernel_rfl) (Or.inl ⟨by rfl, ?_⟩) hS ?_
            rotate_left
            · intro w0 hSw; (try dsimp only at hSw); go_simp; with_reducible rfl
            (try simp only [Act.put, List.setIfInBounds_toArray, List.set_cons_zero, List.set_cons_succ])
            refine take0 (i := 5) (oi := _) (v := ?_) rfl (by kernel_rfl) (by kernel_rfl) (by kernel_rfl) (fun _ _ _ h => h) rfl (Or.inl ⟨by rfl, ?_⟩) (fun _ => hS) ?_
            rotate_left
            · intro w0; go_simp; with_reducible rfl
            (try simp only [Act.put, List.setIfInBounds_toArray, List.set_cons_zero, List.set_cons_succ])
            refine take0 (i := 6) (oi := _) (v := ?_) rfl (by kernel_rfl) (by kernel_rfl) (by kernel_rfl) (fun _ _ _ h => h) rfl (Or.inl ⟨by rfl, ?_⟩) (fun _ => hS) ?_
            rotate_left
            · intro w0; go_simp; with_reducible rfl
            (try simp only [Act.put, List.setIfInBounds_toArray, List.set_cons_zero, List.set_cons_succ])
            refine take0 (i := 7) (oi := _) (v := ?_) rfl (by kernel_rfl) (by kernel_rfl) (by kernel_rfl) (fun _ _ _ h => h) rfl (Or.inl ⟨by rfl, ?_⟩) (fun _ => hS) ?_
            rotate_left
            · intro w0; go_simp; with_reducible rfl
            (try simp only [Act.put, List.setIfInBounds_toArray, List.set_cons_zero, List.set_cons_succ])
            refine take0 (i := 8) (oi := _) (v := ?_) rfl (by kernel_rfl) (by kernel_rfl) (by kernel_rfl) (fun _ _ _ h => h) rfl (Or.inl ⟨by rfl, ?_⟩) (fun _ => hS) ?_
            rotate_left
            · intro w0; go_simp; with_reducible rfl
            (try simp only [Act.put, List.setIfInBounds_toArray, List.set_cons_zero, List.set_cons_succ])
            refine takeS (i := 9) (oi := _) (v := ?_) rfl (by kernel_rfl) (by kernel_rfl) (by kernel_rfl) (fun _ _ _ h => h) rfl (by kernel_rfl) (by kernel_rfl) (Or.inl ⟨by rfl, ?_⟩) hS ?_
            rotate_left
            · intro w0 hSw; (try dsimp only at hSw); go_simp; with_reducible rfl
            (try simp only [Act.put, List.setIfInBounds_toArray, List.set_cons_zero, List.set_cons_succ])
            refine take0 (i := 10) (oi := _) (v := ?_) rfl (by kernel_rfl) (by kernel_rfl) (by kernel_rfl) (fun _ _ _ h => h) rfl (Or.inl ⟨by rfl, ?_⟩) (fun _ => hS) ?_
            rotate_left
            · intro w0; go_simp; with_reducible rfl
            (try simp only [Act.put, List.setIfInBounds_toArray, List.set_cons_zero, List.set_cons_succ])
            refine oneT (i := 11) (by kernel_rfl) rfl (by rfl) (fun K hK => ?_)
            go_simp
            refine ((all_ref _ _ _ _ _ _ l6 (bb.set u false) _ (HX6.out.drewN 1) (O5.out.keep (below_drewN w5x 1)).sl HXl.out r5 hr5).mono (fun _ _ hh => hh.v)).mono ?_
            rintro e w6x ⟨rfl, hb6'⟩
            have B6 := Lib.hid (below_next (below_drewN w5x 1) hb6')
            clear hb6'
            have hS : w6x.cell? ⟨b, off + j, none⟩ = some (.int .i64 v) ∧ w6x.cell? ⟨gr, j, none⟩ = some (.slice X6 nx6 cx6) := ⟨keepBox B6.out hcv, keepBox B6.out hcx⟩
            refine hK _ _ (fun _ => hS) ?_
            clear hK
            (try simp only [Act.put, List.setIfInBounds_toArray, List.set_cons_zero, List.set_cons_succ])
            refine take0 (i := 12) (oi := _) (v := ?_) rfl (by kernel_rfl) (by kernel_rfl) (by kernel_rfl) (fun _ _ _ h => h) rfl (Or.inl ⟨by rfl, ?_⟩) (fun _ => hS) ?_
            rotate_left
            · intro w0; go_simp; with_reducible rfl
            (try simp only [Act.put, List.setIfInBounds_toArray, List.set_cons_zero, List.set_cons_succ])
            refine oneT (i := 13) (by kernel_rfl) rfl (by rfl) (fun K hK => ?_)
            go_simp
            refine hK _ _ (fun _ => hS) ?_
            clear hK
            (try simp only [Act.put, List.setIfInBounds_toArray, List.set_cons_zero, List.set_cons_succ])
            have O6 := Lib.hid (O5.out.keep B6.out)
            obtain ⟨_, ub6, e6, _, hl6, hc6, hf6, hub6⟩ := O6.out.at_ hun
            cases e6
            obtain ⟨w7x, hw7⟩ : ∃ w7x : World, w7x = w6x.setCell ⟨g2, u, none⟩ (.bool (!r5)) := ⟨_, rfl⟩
            have B7 : Hid (Below w8.heap.size w8 w7x) := by rw [hw7]; exact (below_next BL5.out B6.out).setCell (p := ⟨g2, u, none⟩) hg2 _
            have O7 : Hid (Own 4 w7x w8.heap.size (some ⟨g2, 0, none⟩) p c9 ((bb.set u (!r5)).map Value.bool)) := by rw [hw7]; have := O6.out.set_ u (.bool (!r5)); rw [← List.map_set, List.set_set] at this; exact this
            have HW7 := Lib.hid hw7
            clear hw7
            refine oneT (i := 14) (by kernel_rfl) rfl (by rfl) (fun K hK => ?_)
            go_simp
            rw [← HW7.out]
            have hS : w7x.cell? ⟨b, off + j, none⟩ = some (.int .i64 v) ∧ w7x.cell? ⟨gr, j, none⟩ = some (.slice X6 nx6 cx6) := by
              rw [HW7.out]
              refine ⟨?_, ?_⟩
              · rw [World.cell?_setCell_other _ _ _ _ (fun e => hneb (congrArg Addr.block e))]; exact hS.1
              · rw [World.cell?_setCell_other _ _ _ _ (fun e => hneg (congrArg Addr.block e))]; exact hS.2
            refine hK _ _ (fun _ => hS) ?_
            clear hK
            (try simp only [Act.put, List.setIfInBounds_toArray, List.set_cons_zero, List.set_cons_succ])
            refine doneT (by kernel_rfl) ?_ _
            go_wp2_with fail
            go_roundw
            case rel => exact ⟨j, by omega, by go_num, by rw [mendF_step hvk.out hlk.out, hbb.out, hva, hr5.out]; exact O7.out, B7.out⟩
            case measure => simp [intOf]
          · obtain rfl : k = 0 := by omega
            have OF : Hid (Own 4 wr w8.heap.size A9 p c9 ((mendF vs R a).map Value.bool)) := by have := hO.out; simp only [List.drop_zero] at this; exact this
            have HBF := Lib.hid (below_next HB8.out hbl.out)
            replace HZ := Lib.hid (HZ.out.keep hbl.out)
            replace K_f := Lib.hid (K_f.out.keep hbl.out)
            replace K_x := Lib.hid (K_x.out.keep hbl.out)
            have s0 := K_f.out.cell 0
            have s1 := K_f.out.cell 1
            have s2 := K_x.out.cell 0
            have s3 := K_x.out.cell 1
            simp at s0 s1 s2 s3
            have HW := Lib.hid (show Bools wr A9 p c9 (mendF vs R a) from OF.out.sl)
            obtain ⟨wf, hwf⟩ : ∃ wf : World, wf = wr := ⟨_, rfl⟩
            subst hwf
            have d5 : ((p : Int) != (p : Int)) = false := by simp
            clear hO hbl
            go_wp2_with fail
            go_loopw [16] (fun s wr => ∃ k : Nat, k ≤ p ∧ s = .int .i64 k ∧ Hid (∃ q, wr = wf.drewN q)) (fun s _ => p - (intOf s).toNat)
            case atStart => exact ⟨0, Nat.zero_le _, rfl, ⟨0, rfl⟩⟩
            case round =>
              obtain ⟨k, hk, rfl, hqq⟩ := hrel
              by_cases hlt2 : k < p
              · obtain ⟨b1, off1, v1', hE1, hb1, hc1, hv1⟩ := Bools.round (Bools.keep HZ.out (show Below wf.heap.size wf wr by obtain ⟨q, rfl⟩ := hqq.out; exact below_drewN _ _)) hlt2
                obtain ⟨b2, off2, v2', hE2, hb2, hc2', hv2⟩ := Bools.round (Bools.keep HW.out (show Below wf.heap.size wf wr by obtain ⟨q, rfl⟩ := hqq.out; exact below_drewN _ _)) hlt2
                subst hE1 hE2
                obtain rfl : v1' = v2' := by have := hv1.out; rw [hv2.out] at this; cases this; rfl
                have x1 : (0 : Int) ≤ (k : Int) := by omega
                have x2 : (k : Int) < (p : Int) := by omega
                have dv : (v1' != v1') = false := by cases v1' <;> rfl
                go_wp2_with fail
                go_quiet (fail)
                go_wp2_with fail
                go_roundw
                case rel => exact ⟨k + 1, by omega, by go_num, by obtain ⟨q, rfl⟩ := hqq.out; exact ⟨_, World.drewN_drewN _ _ _⟩⟩
                case measure => simp [intOf]; omega
              · go_wp2_with fail
                go_ret
                exact ⟨rfl, by obtain ⟨q, rfl⟩ := hqq.out; exact below_next HBF.out (below_drewN _ _)⟩
  · have d1 : (r1 != 0) = true := by simpa using hr1
    have d1' : (r1 == 0) = false := by simpa using hr1
    have e1 : (r1 == r1) = true := by simp
    have e2 : (r2 == r2) = true := by simp
    obtain ⟨hR0, hno⟩ := doneS_no hR.out hr1
    subst hR0
    obtain ⟨rfl, rfl, rfl⟩ : [] = Z ∧ r1 = z1 ∧ r2 = z2 := by have := hZ.out; rw [mendS, hR.out, if_pos hr1] at this; simpa using this
    rcases hno with hvr | ⟨hvr, hck, hvs, rfl, k, rfl, hkm, hgk⟩
    · have HVR : Hid (varsR vars xss vs = (r1, r2)) := hvr
      go_enter Try.func12, Try.ntmps12
      go_wp2_with fail
      refine (heavy_any _ _ _ _ _ hn63 _ hhv).mono ?_
      rintro e w1 ⟨rfl, hb1⟩
      obtain ⟨K_c0, B_w1, l_w1⟩ := blk1 hb1
      replace G := Lib.hid (G.out.keep B_w1)
      replace HV := Lib.hid (HV.out.keep B_w1)
      replace HA := Lib.hid (HA.out.keep B_w1)
      have HB := Lib.hid B_w1
      have K_c := Lib.hid K_c0
      clear hb1 B_w1 K_c0
      have cK_c_0 := K_c.out.cell 0
      have cK_c_1 := K_c.out.cell 1
      simp at cK_c_0 cK_c_1
      have zK_c := K_c.out.lt
      go_wp2_with fail
      refine (mend_any _ _ _ _ _ _ _ _ _ xss vs a vars _ G.out hv HV.out HA.out [] r1 r2 hZ).mono ?_
      rintro e w2 ⟨A2, n2, c2, rfl, hO2, hb2⟩
      have B_w2 := hb2
      replace G := Lib.hid (G.out.keep B_w2)
      replace HV := Lib.hid (HV.out.keep B_w2)
      replace HA := Lib.hid (HA.out.keep B_w2)
      replace K_c := Lib.hid (K_c.out.keep B_w2)
      replace HB := Lib.hid (below_next HB.out B_w2)
      clear hb2 B_w2
      clear cK_c_0 cK_c_1 zK_c
      have cK_c_0 := K_c.out.cell 0
      have cK_c_1 := K_c.out.cell 1
      simp at cK_c_0 cK_c_1
      have zK_c := K_c.out.lt
      obtain rfl : n2 = 0 := by have := hO2.len; simpa using this.symm
      clear hO2
      go_wp2_with fail
      refine (pair_any _).mono ?_
      rintro e w3 ⟨A5, n5, c5, rfl, hG5, hb3⟩
      obtain ⟨K_f0, B_w3, l_w3⟩ := blk1 hb3
      replace G := Lib.hid (G.out.keep B_w3)
      replace HV := Lib.hid (HV.out.keep B_w3)
      replace HA := Lib.hid (HA.out.keep B_w3)
      replace K_c := Lib.hid (K_c.out.keep B_w3)
      replace HB := Lib.hid (below_next HB.out B_w3)
      have K_f := Lib.hid K_f0
      clear hb3 B_w3 K_f0
      clear cK_c_0 cK_c_1 zK_c
      have cK_c_0 := K_c.out.cell 0
      have cK_c_1 := K_c.out.cell 1
      simp at cK_c_0 cK_c_1
      have zK_c := K_c.out.lt
      have cK_f_0 := K_f.out.cell 0
      have cK_f_1 := K_f.out.cell 1
      simp at cK_f_0 cK_f_1
      have zK_f := K_f.out.lt
      have GP := Lib.hid hG5
      clear hG5
      go_wp2_with fail
      refine (mend_any _ _ _ _ _ _ _ _ _ [[1, 2], [-1]] [1] [true, true] 2 _ (GP.out.keep (below_alloc (below_new _ _) _)) ⟨by omega, by omega⟩ ((ints_made _ 3 [1] (by simp) (by simp [I64]) (by decide)).keep (below_new _ _)) (bools_made _ 4 [true, true] (by simp) (by decide)) [false, true] 0 0 mend_pair).mono ?_
      rintro e w4 ⟨A6, n6, c6, rfl, hO6, hb4⟩
      have hb4' := below_next (below_alloc (below_new _ _) _) hb4
      clear hb4
      have B_w4 := hb4'
      replace G := Lib.hid (G.out.keep B_w4)
      replace HV := Lib.hid (HV.out.keep B_w4)
      replace HA := Lib.hid (HA.out.keep B_w4)
      replace GP := Lib.hid (GP.out.keep B_w4)
      replace K_c := Lib.hid (K_c.out.keep B_w4)
      replace K_f := Lib.hid (K_f.out.keep B_w4)
      replace HB := Lib.hid (below_next HB.out B_w4)
      clear hb4' B_w4
      clear cK_c_0 cK_c_1 zK_c cK_f_0 cK_f_1 zK_f
      have cK_c_0 := K_c.out.cell 0
      have cK_c_1 := K_c.out.cell 1
      simp at cK_c_0 cK_c_1
      have zK_c := K_c.out.lt
      have cK_f_0 := K_f.out.cell 0
      have cK_f_1 := K_f.out.cell 1
      simp at cK_f_0 cK_f_1
      have zK_f := K_f.out.lt
      obtain rfl : n6 = 2 := by have := hO6.len; simpa using this.symm
      obtain ⟨gq, ub, hA6, _, hl6, hc60, _, hub0⟩ := hO6.at_ (k := 0) (by omega)
      subst hA6
      obtain ⟨_, ub1, hA6, _, _, hc61, _, hub1⟩ := hO6.at_ (k := 1) (by omega)
      cases hA6
      obtain rfl : ub = .bool false := by have := hub0.out; simpa using this.symm
      obtain rfl : ub1 = .bool true := by have := hub1.out; simpa using this.symm
      clear hO6 hub0 hub1
      go_wp2_with fail
      refine (vars_ref _ _ _ _ _ _ xss vs vars _ (G.out.keep (below_new _ _)) hv (HV.out.keep (below_new _ _)) (by omega) r1 r2 HVR).mono ?_
      rintro e w6 ⟨rfl, hb6⟩
      clear hc60 hc61
      have L26 : w2.heap.size < w6.heap.size := by have h1 := zK_f; have h2 := hb6.size; simp at h2; omega
      have L06 : w.heap.size ≤ w6.heap.size := by have h1 := HB.out.size; have h2 := hb6.size; simp at h2; omega
      have LC6 : w.heap.size < w6.heap.size := by have h1 := zK_c; have h2 := hb6.size; simp at h2; omega
      obtain ⟨K_g0, B_w6, l_w6⟩ := blk1 hb6
      replace G := Lib.hid (G.out.keep B_w6)
      replace HV := Lib.hid (HV.out.keep B_w6)
      replace HA := Lib.hid (HA.out.keep B_w6)
      replace GP := Lib.hid (GP.out.keep B_w6)
      replace K_c := Lib.hid (K_c.out.keep B_w6)
      replace K_f := Lib.hid (K_f.out.keep B_w6)
      replace HB := Lib.hid (below_next HB.out B_w6)
      have K_g := Lib.hid K_g0
      clear hb6 B_w6 K_g0
      clear cK_c_0 cK_c_1 zK_c cK_f_0 cK_f_1 zK_f
      have cK_c_0 := K_c.out.cell 0
      have cK_c_1 := K_c.out.cell 1
      simp at cK_c_0 cK_c_1
      have zK_c := K_c.out.lt
      have cK_f_0 := K_f.out.cell 0
      have cK_f_1 := K_f.out.cell 1
      simp at cK_f_0 cK_f_1
      have zK_f := K_f.out.lt
      have cK_g_0 := K_g.out.cell 0
      have cK_g_1 := K_g.out.cell 1
      simp at cK_g_0 cK_g_1
      have zK_g := K_g.out.lt
      go_wp2_with fail
      go_ret
      exact ⟨rfl, below_next HB.out (below_new _ _)⟩
    · have HVR : Hid (varsR vars xss vs = (0, 0)) := hvr
      obtain ⟨RR, hRR⟩ : ∃ RR, Hid (goneF vars vs (normF xss) [normF xss] 0 = (RR, k)) := ⟨_, Prod.ext rfl hgk⟩
      have hkm' : k < m := by have := hlv.out; omega
      have zk : (k : Int) < (m : Int) := by omega
      clear hgk hvr
      go_enter Try.func12, Try.ntmps12
      go_wp2_with fail
      refine (heavy_any _ _ _ _ _ hn63 _ hhv).mono ?_
      rintro e w1 ⟨rfl, hb1⟩
      obtain ⟨K_c0, B_w1, l_w1⟩ := blk1 hb1
      replace G := Lib.hid (G.out.keep B_w1)
      replace HV := Lib.hid (HV.out.keep B_w1)
      replace HA := Lib.hid (HA.out.keep B_w1)
      have HB := Lib.hid B_w1
      have K_c := Lib.hid K_c0
      clear hb1 B_w1 K_c0
      have cK_c_0 := K_c.out.cell 0
      have cK_c_1 := K_c.out.cell 1
      simp at cK_c_0 cK_c_1
      have zK_c := K_c.out.lt
      go_wp2_with fail
      refine (mend_any _ _ _ _ _ _ _ _ _ xss vs a vars _ G.out hv HV.out HA.out [] 10 k hZ).mono ?_
      rintro e w2 ⟨A2, n2, c2, rfl, hO2, hb2⟩
      have B_w2 := hb2
      replace G := Lib.hid (G.out.keep B_w2)
      replace HV := Lib.hid (HV.out.keep B_w2)
      replace HA := Lib.hid (HA.out.keep B_w2)
      replace K_c := Lib.hid (K_c.out.keep B_w2)
      replace HB := Lib.hid (below_next HB.out B_w2)
      clear hb2 B_w2
      clear cK_c_0 cK_c_1 zK_c
      have cK_c_0 := K_c.out.cell 0
      have cK_c_1 := K_c.out.cell 1
      simp at cK_c_0 cK_c_1
      have zK_c := K_c.out.lt
      obtain rfl : n2 = 0 := by have := hO2.len; simpa using this.symm
      clear hO2
      go_wp2_with fail
      refine (pair_any _).mono ?_
      rintro e w3 ⟨A5, n5, c5, rfl, hG5, hb3⟩
      obtain ⟨K_f0, B_w3, l_w3⟩ := blk1 hb3
      replace G := Lib.hid (G.out.keep B_w3)
      replace HV := Lib.hid (HV.out.keep B_w3)
      replace HA := Lib.hid (HA.out.keep B_w3)
      replace K_c := Lib.hid (K_c.out.keep B_w3)
      replace HB := Lib.hid (below_next HB.out B_w3)
      have K_f := Lib.hid K_f0
      clear hb3 B_w3 K_f0
      clear cK_c_0 cK_c_1 zK_c
      have cK_c_0 := K_c.out.cell 0
      have cK_c_1 := K_c.out.cell 1
      simp at cK_c_0 cK_c_1
      have zK_c := K_c.out.lt
      have cK_f_0 := K_f.out.cell 0
      have cK_f_1 := K_f.out.cell 1
      simp at cK_f_0 cK_f_1
      have zK_f := K_f.out.lt
      have GP := Lib.hid hG5
      clear hG5
      go_wp2_with fail
      refine (mend_any _ _ _ _ _ _ _ _ _ [[1, 2], [-1]] [1] [true, true] 2 _ (GP.out.keep (below_alloc (below_new _ _) _)) ⟨by omega, by omega⟩ ((ints_made _ 3 [1] (by simp) (by simp [I64]) (by decide)).keep (below_new _ _)) (bools_made _ 4 [true, true] (by simp) (by decide)) [false, true] 0 0 mend_pair).mono ?_
      rintro e w4 ⟨A6, n6, c6, rfl, hO6, hb4⟩
      have hb4' := below_next (below_alloc (below_new _ _) _) hb4
      clear hb4
      have B_w4 := hb4'
      replace G := Lib.hid (G.out.keep B_w4)
      replace HV := Lib.hid (HV.out.keep B_w4)
      replace HA := Lib.hid (HA.out.keep B_w4)
      replace GP := Lib.hid (GP.out.keep B_w4)
      replace K_c := Lib.hid (K_c.out.keep B_w4)
      replace K_f := Lib.hid (K_f.out.keep B_w4)
      replace HB := Lib.hid (below_next HB.out B_w4)
      clear hb4' B_w4
      clear cK_c_0 cK_c_1 zK_c cK_f_0 cK_f_1 zK_f
      have cK_c_0 := K_c.out.cell 0
      have cK_c_1 := K_c.out.cell 1
      simp at cK_c_0 cK_c_1
      have zK_c := K_c.out.lt
      have cK_f_0 := K_f.out.cell 0
      have cK_f_1 := K_f.out.cell 1
      simp at cK_f_0 cK_f_1
      have zK_f := K_f.out.lt
      obtain rfl : n6 = 2 := by have := hO6.len; simpa using this.symm
      obtain ⟨gq, ub, hA6, _, hl6, hc60, _, hub0⟩ := hO6.at_ (k := 0) (by omega)
      subst hA6
      obtain ⟨_, ub1, hA6, _, _, hc61, _, hub1⟩ := hO6.at_ (k := 1) (by omega)
      cases hA6
      obtain rfl : ub = .bool false := by have := hub0.out; simpa using this.symm
      obtain rfl : ub1 = .bool true := by have := hub1.out; simpa using this.symm
      clear hO6 hub0 hub1
      go_wp2_with fail
      refine (vars_ref _ _ _ _ _ _ xss vs vars _ (G.out.keep (below_new _ _)) hv (HV.out.keep (below_new _ _)) (by omega) 0 0 HVR).mono ?_
      rintro e w6 ⟨rfl, hb6⟩
      clear hc60 hc61
      have L26 : w2.heap.size < w6.heap.size := by have h1 := zK_f; have h2 := hb6.size; simp at h2; omega
      have L06 : w.heap.size ≤ w6.heap.size := by have h1 := HB.out.size; have h2 := hb6.size; simp at h2; omega
      have LC6 : w.heap.size < w6.heap.size := by have h1 := zK_c; have h2 := hb6.size; simp at h2; omega
      obtain ⟨K_g0, B_w6, l_w6⟩ := blk1 hb6
      replace G := Lib.hid (G.out.keep B_w6)
      replace HV := Lib.hid (HV.out.keep B_w6)
      replace HA := Lib.hid (HA.out.keep B_w6)
      replace GP := Lib.hid (GP.out.keep B_w6)
      replace K_c := Lib.hid (K_c.out.keep B_w6)
      replace K_f := Lib.hid (K_f.out.keep B_w6)
      replace HB := Lib.hid (below_next HB.out B_w6)
      have K_g := Lib.hid K_g0
      clear hb6 B_w6 K_g0
      clear cK_c_0 cK_c_1 zK_c cK_f_0 cK_f_1 zK_f
      have cK_c_0 := K_c.out.cell 0
      have cK_c_1 := K_c.out.cell 1
      simp at cK_c_0 cK_c_1
      have zK_c := K_c.out.lt
      have cK_f_0 := K_f.out.cell 0
      have cK_f_1 := K_f.out.cell 1
      simp at cK_f_0 cK_f_1
      have zK_f := K_f.out.lt
      have cK_g_0 := K_g.out.cell 0
      have cK_g_1 := K_g.out.cell 1
      simp at cK_g_0 cK_g_1
      have zK_g := K_g.out.lt
      go_wp2_with fail
      refine (gone_ref _ _ _ _ _ _ xss vs vars _ (G.out.keep (below_new _ _)) hv (HV.out.keep (below_new _ _)) (by omega) hck hvs RR k hRR).mono ?_
      rintro e w7 ⟨A7, n7, c7, rfl, hQ7, hb7⟩
      obtain ⟨K_x0, B_w7, l_w7⟩ := blk1 hb7
      replace G := Lib.hid (G.out.keep B_w7)
      replace HV := Lib.hid (HV.out.keep B_w7)
      replace HA := Lib.hid (HA.out.keep B_w7)
      replace GP := Lib.hid (GP.out.keep B_w7)
      replace K_c := Lib.hid (K_c.out.keep B_w7)
      replace K_f := Lib.hid (K_f.out.keep B_w7)
      replace K_g := Lib.hid (K_g.out.keep B_w7)
      replace HB := Lib.hid (below_next HB.out B_w7)
      have K_x := Lib.hid K_x0
      clear hb7 B_w7 K_x0
      clear cK_c_0 cK_c_1 zK_c cK_f_0 cK_f_1 zK_f cK_g_0 cK_g_1 zK_g
      have cK_c_0 := K_c.out.cell 0
      have cK_c_1 := K_c.out.cell 1
      simp at cK_c_0 cK_c_1
      have zK_c := K_c.out.lt
      have cK_f_0 := K_f.out.cell 0
      have cK_f_1 := K_f.out.cell 1
      simp at cK_f_0 cK_f_1
      have zK_f := K_f.out.lt
      have cK_g_0 := K_g.out.cell 0
      have cK_g_1 := K_g.out.cell 1
      simp at cK_g_0 cK_g_1
      have zK_g := K_g.out.lt
      have cK_x_0 := K_x.out.cell 0
      have cK_x_1 := K_x.out.cell 1
      simp at cK_x_0 cK_x_1
      have zK_x := K_x.out.lt
      have fK_x_0 := K_x.out.frozen 0
      have fK_x_1 := K_x.out.frozen 1
      clear hQ7
      have KXy := Lib.hid (show Blk ((w7.setCell ⟨w6.heap.size, 0, none⟩ (.int .i64 10)).setCell ⟨w6.heap.size, 1, none⟩ (.int .i64 k)) w6.heap.size 28 #[.int .i64 10, .int .i64 k] from by have := (K_x.out.set_ 0 (.int .i64 10)).set_ 1 (.int .i64 k); simpa using this)
      have KFy := Lib.hid ((K_f.out.far (p := ⟨w6.heap.size, 0, none⟩) (by simp; omega) (.int .i64 10)).far (p := ⟨w6.heap.size, 1, none⟩) (by simp; omega) (.int .i64 k))
      have KCy := Lib.hid ((K_c.out.far (p := ⟨w6.heap.size, 0, none⟩) (by simp; omega) (.int .i64 10)).far (p := ⟨w6.heap.size, 1, none⟩) (by simp; omega) (.int .i64 k))
      have u0 := KXy.out.cell 0
      have u1 := KXy.out.cell 1
      have u2 := KFy.out.cell 0
      have u3 := KFy.out.cell 1
      have u4 := KCy.out.cell 0
      have u5 := KCy.out.cell 1
      simp only [List.getElem?_toArray, List.getElem?_cons_zero, List.getElem?_cons_succ] at u0 u1 u2 u3 u4 u5
      have HBy := Lib.hid (below_put2 HB.out (g := w6.heap.size) (by omega) (.int .i64 10) (.int .i64 k))
      go_wp2_with fail
      go_ret
      exact ⟨rfl, HBy.out⟩
end Go.Proofs.Ytecgmgidfjbamaa
