/- The walk of CnfSame: it returns true. (Printed by wip/tools/cnflaws.py.) -/
import Derived.Test.YtecgmgidfjbamaaNorm
import Derived.Test.YtecgmgidfjbamaaHolds
namespace Go.Proofs.Ytecgmgidfjbamaa
open Go.RowKit
set_option linter.unusedSimpArgs false

set_option maxHeartbeats 8000000 in
set_option maxRecDepth 100000 in
theorem cnfSame_walk {vars : Int} {A B : Option Addr} {n c m d : Nat} {xss : List (List Int)} {a : List Bool} (w : World) (hv : I64 vars) (h : Grid w A n c xss) (ha : Bools w B m d a) :
    Calls Try.prog 6 #[.agg #[.int .i64 vars, .slice A n c], .slice B m d] w fun e w' => e = .returned (.bool true) ∧ Below w.heap.size w w' := by
  have hbd := h.bd
  have G := Lib.hid h
  have HA := Lib.hid ha
  obtain ⟨r1, r2, hr⟩ : ∃ r1 r2, Hid (withR vars xss m = (r1, r2)) := ⟨_, _, rfl⟩
  obtain ⟨p1, p2, hc⟩ : ∃ r1 r2, Hid (checkC vars xss = (r1, r2)) := ⟨_, _, rfl⟩
  obtain ⟨q, hq⟩ : ∃ q, Hid (q = (decide (r1 = 0) && allB xss a)) := ⟨_, rfl⟩
  clear h ha
  by_cases hr1 : r1 = 0
  · subst hr1
    have hp1 : (checkC vars xss).1 = 0 := by
      have := hr.out
      unfold withR at this
      split at this
      · rename_i h0; rw [this] at h0; exact absurd rfl h0
      · rename_i h0; simpa using h0
    have hm : (m : Int) = vars := by
      have := hr.out
      unfold withR at this
      rw [if_neg (by simpa using hp1)] at this
      split at this
      · simp at this
      · rename_i h0; simpa using h0
    have hc0 : Hid (checkC vars xss = (0, 0)) := (checkC_ok hp1).1
    obtain rfl : r2 = 0 := by have := hr.out; unfold withR at this; rw [if_neg (by simpa using hp1), if_neg (by simpa using hm)] at this; simpa using this.symm
    have hrn : Hid (withR vars (normF xss) m = (0, 0)) := by unfold withR; rw [check_norm hp1, if_neg (by simp), if_neg (by simpa using hm)]; rfl
    have hqn : Hid (q = (decide ((0 : Int) = 0) && allB (normF xss) a)) := by rw [allB_norm]; exact hq
    have _hm := hm
    clear hp1
    go_enter Try.func6, Try.ntmps6
    go_wp2_with fail
    refine (holds_any _ _ _ _ _ _ xss a vars _ (G.out.keep (below_new _ _)) hv (HA.out.keep (below_new _ _)) 0 0 hr q hq).mono ?_
    rintro e w1 ⟨rfl, hb1⟩
    obtain ⟨K_c0, B_w1, l_w1⟩ := blk1 hb1
    replace G := Lib.hid (G.out.keep B_w1)
    replace HA := Lib.hid (HA.out.keep B_w1)
    have HB := Lib.hid B_w1
    have K_c := Lib.hid K_c0
    clear hb1 B_w1 K_c0
    have cK_c_0 := K_c.out.cell 0
    have cK_c_1 := K_c.out.cell 1
    simp at cK_c_0 cK_c_1
    have zK_c := K_c.out.lt
    go_wp2_with fail
    refine (norm_own _ _ _ xss vars _ (G.out.keep (below_new _ _)) hv hc0).mono ?_
    rintro e w2 ⟨A2, n2, c2, rfl, hO2, hb2⟩
    obtain ⟨K_f0, B_w2, l_w2⟩ := blk1 hb2
    replace G := Lib.hid (G.out.keep B_w2)
    replace HA := Lib.hid (HA.out.keep B_w2)
    replace K_c := Lib.hid (K_c.out.keep B_w2)
    replace HB := Lib.hid (below_next HB.out B_w2)
    have K_f := Lib.hid K_f0
    clear hb2 B_w2 K_f0
    clear cK_c_0 cK_c_1 zK_c
    have cK_c_0 := K_c.out.cell 0
    have cK_c_1 := K_c.out.cell 1
    simp at cK_c_0 cK_c_1
    have zK_c := K_c.out.lt
    have cK_f_0 := K_f.out.cell 0
    have cK_f_1 := K_f.out.cell 1
    simp at cK_f_0 cK_f_1
    have zK_f := K_f.out.lt
    have G2 := Lib.hid hO2.grid.clip
    clear hO2
    go_wp2_with fail
    refine (holds_any _ _ _ _ _ _ (normF xss) a vars _ (G2.out.keep (below_alloc (below_new _ _) _)) hv (HA.out.keep (below_alloc (below_new _ _) _)) 0 0 hrn q hqn).mono ?_
    rintro e w3 ⟨rfl, hb3⟩
    obtain ⟨K_n0, K_g0, B_w3, l_w3⟩ := two_blks hb3
    replace G := Lib.hid (G.out.keep B_w3)
    replace HA := Lib.hid (HA.out.keep B_w3)
    replace G2 := Lib.hid (G2.out.keep B_w3)
    replace K_c := Lib.hid (K_c.out.keep B_w3)
    replace K_f := Lib.hid (K_f.out.keep B_w3)
    replace HB := Lib.hid (below_next HB.out B_w3)
    have K_n := Lib.hid K_n0
    have K_g := Lib.hid K_g0
    clear hb3 B_w3 K_n0 K_g0
    clear cK_c_0 cK_c_1 zK_c cK_f_0 cK_f_1 zK_f
    have cK_c_0 := K_c.out.cell 0
    have cK_c_1 := K_c.out.cell 1
    simp at cK_c_0 cK_c_1
    have zK_c := K_c.out.lt
    have cK_f_0 := K_f.out.cell 0
    have cK_f_1 := K_f.out.cell 1
    simp at cK_f_0 cK_f_1
    have zK_f := K_f.out.lt
    have cK_n_0 := K_n.out.cell 0
    have cK_n_1 := K_n.out.cell 1
    simp at cK_n_0 cK_n_1
    have zK_n := K_n.out.lt
    have cK_g_0 := K_g.out.cell 0
    have cK_g_1 := K_g.out.cell 1
    simp at cK_g_0 cK_g_1
    have zK_g := K_g.out.lt
    go_wp2_with fail
    refine (pair_any _).mono ?_
    rintro e w4 ⟨A5, n5, c5, rfl, hG5, hb4⟩
    obtain ⟨K_h0, B_w4, l_w4⟩ := blk1 hb4
    replace G := Lib.hid (G.out.keep B_w4)
    replace HA := Lib.hid (HA.out.keep B_w4)
    replace G2 := Lib.hid (G2.out.keep B_w4)
    replace K_c := Lib.hid (K_c.out.keep B_w4)
    replace K_f := Lib.hid (K_f.out.keep B_w4)
    replace K_n := Lib.hid (K_n.out.keep B_w4)
    replace K_g := Lib.hid (K_g.out.keep B_w4)
    replace HB := Lib.hid (below_next HB.out B_w4)
    have K_h := Lib.hid K_h0
    clear hb4 B_w4 K_h0
    clear cK_c_0 cK_c_1 zK_c cK_f_0 cK_f_1 zK_f cK_n_0 cK_n_1 zK_n cK_g_0 cK_g_1 zK_g
    have cK_c_0 := K_c.out.cell 0
    have cK_c_1 := K_c.out.cell 1
    simp at cK_c_0 cK_c_1
    have zK_c := K_c.out.lt
    have cK_f_0 := K_f.out.cell 0
    have cK_f_1 := K_f.out.cell 1
    simp at cK_f_0 cK_f_1
    have zK_f := K_f.out.lt
    have cK_n_0 := K_n.out.cell 0
    have cK_n_1 := K_n.out.cell 1
    simp at cK_n_0 cK_n_1
    have zK_n := K_n.out.lt
    have cK_g_0 := K_g.out.cell 0
    have cK_g_1 := K_g.out.cell 1
    simp at cK_g_0 cK_g_1
    have zK_g := K_g.out.lt
    have cK_h_0 := K_h.out.cell 0
    have cK_h_1 := K_h.out.cell 1
    simp at cK_h_0 cK_h_1
    have zK_h := K_h.out.lt
    have GP := Lib.hid hG5
    clear hG5
    go_wp2_with fail
    refine (holds_any _ _ _ _ _ _ [[1, 2], [-1]] [false, true] 2 _ (GP.out.keep (below_new _ _)) ⟨by omega, by omega⟩ (bools_made _ 4 [false, true] rfl (by decide)) 0 0 (by show _ = _; decide) true (by show _ = _; decide)).mono ?_
    rintro e w5 ⟨rfl, hb5⟩
    obtain ⟨K_b0, B_w5, l_w5⟩ := blk1 hb5
    replace G := Lib.hid (G.out.keep B_w5)
    replace HA := Lib.hid (HA.out.keep B_w5)
    replace G2 := Lib.hid (G2.out.keep B_w5)
    replace GP := Lib.hid (GP.out.keep B_w5)
    replace K_c := Lib.hid (K_c.out.keep B_w5)
    replace K_f := Lib.hid (K_f.out.keep B_w5)
    replace K_n := Lib.hid (K_n.out.keep B_w5)
    replace K_g := Lib.hid (K_g.out.keep B_w5)
    replace K_h := Lib.hid (K_h.out.keep B_w5)
    replace HB := Lib.hid (below_next HB.out B_w5)
    have K_b := Lib.hid K_b0
    clear hb5 B_w5 K_b0
    clear cK_c_0 cK_c_1 zK_c cK_f_0 cK_f_1 zK_f cK_n_0 cK_n_1 zK_n cK_g_0 cK_g_1 zK_g cK_h_0 cK_h_1 zK_h
    have cK_c_0 := K_c.out.cell 0
    have cK_c_1 := K_c.out.cell 1
    simp at cK_c_0 cK_c_1
    have zK_c := K_c.out.lt
    have cK_f_0 := K_f.out.cell 0
    have cK_f_1 := K_f.out.cell 1
    simp at cK_f_0 cK_f_1
    have zK_f := K_f.out.lt
    have cK_n_0 := K_n.out.cell 0
    have cK_n_1 := K_n.out.cell 1
    simp at cK_n_0 cK_n_1
    have zK_n := K_n.out.lt
    have cK_g_0 := K_g.out.cell 0
    have cK_g_1 := K_g.out.cell 1
    simp at cK_g_0 cK_g_1
    have zK_g := K_g.out.lt
    have cK_h_0 := K_h.out.cell 0
    have cK_h_1 := K_h.out.cell 1
    simp at cK_h_0 cK_h_1
    have zK_h := K_h.out.lt
    have cK_b_0 := K_b.out.cell 0
    have cK_b_1 := K_b.out.cell 1
    simp at cK_b_0 cK_b_1
    have zK_b := K_b.out.lt
    have dq : (q == q) = true := by cases q <;> rfl
    cases q
    all_goals
      go_wp2_with fail
      go_ret
      exact ⟨rfl, below_next HB.out (below_new _ _)⟩
  · have d1 : (r1 != 0) = true := by simpa using hr1
    obtain rfl : q = false := by rw [hq.out]; simp [hr1]
    by_cases hp1 : p1 = 0
    · subst hp1
      have hc0 : Hid (checkC vars xss = (0, 0)) := (checkC_ok (by rw [hc.out])).1
      go_enter Try.func6, Try.ntmps6
      go_wp2_with fail
      refine (holds_any _ _ _ _ _ _ xss a vars _ (G.out.keep (below_new _ _)) hv (HA.out.keep (below_new _ _)) r1 r2 hr false hq).mono ?_
      rintro e w1 ⟨rfl, hb1⟩
      obtain ⟨K_c0, B_w1, l_w1⟩ := blk1 hb1
      replace G := Lib.hid (G.out.keep B_w1)
      replace HA := Lib.hid (HA.out.keep B_w1)
      have HB := Lib.hid B_w1
      have K_c := Lib.hid K_c0
      clear hb1 B_w1 K_c0
      have cK_c_0 := K_c.out.cell 0
      have cK_c_1 := K_c.out.cell 1
      simp at cK_c_0 cK_c_1
      have zK_c := K_c.out.lt
      go_wp2_with fail
      refine (norm_own _ _ _ xss vars _ (G.out.keep (below_new _ _)) hv hc0).mono ?_
      rintro e w2 ⟨A2, n2, c2, rfl, hO2, hb2⟩
      obtain ⟨K_f0, B_w2, l_w2⟩ := blk1 hb2
      replace G := Lib.hid (G.out.keep B_w2)
      replace HA := Lib.hid (HA.out.keep B_w2)
      replace K_c := Lib.hid (K_c.out.keep B_w2)
      replace HB := Lib.hid (below_next HB.out B_w2)
      have K_f := Lib.hid K_f0
      clear hb2 B_w2 K_f0
      clear cK_c_0 cK_c_1 zK_c
      have cK_c_0 := K_c.out.cell 0
      have cK_c_1 := K_c.out.cell 1
      simp at cK_c_0 cK_c_1
      have zK_c := K_c.out.lt
      have cK_f_0 := K_f.out.cell 0
      have cK_f_1 := K_f.out.cell 1
      simp at cK_f_0 cK_f_1
      have zK_f := K_f.out.lt
      have G2 := Lib.hid hO2.grid.clip
      clear hO2
      go_wp2_with fail
      go_ret
      exact ⟨rfl, below_next HB.out (below_alloc (below_new _ _) _)⟩
    · go_enter Try.func6, Try.ntmps6
      go_wp2_with fail
      refine (holds_any _ _ _ _ _ _ xss a vars _ (G.out.keep (below_new _ _)) hv (HA.out.keep (below_new _ _)) r1 r2 hr false hq).mono ?_
      rintro e w1 ⟨rfl, hb1⟩
      obtain ⟨K_c0, B_w1, l_w1⟩ := blk1 hb1
      replace G := Lib.hid (G.out.keep B_w1)
      replace HA := Lib.hid (HA.out.keep B_w1)
      have HB := Lib.hid B_w1
      have K_c := Lib.hid K_c0
      clear hb1 B_w1 K_c0
      have cK_c_0 := K_c.out.cell 0
      have cK_c_1 := K_c.out.cell 1
      simp at cK_c_0 cK_c_1
      have zK_c := K_c.out.lt
      go_wp2_with fail
      refine (norm_wrong _ _ _ xss vars _ (G.out.keep (below_new _ _)) hv p1 p2 hc hp1).mono ?_
      rintro e w2 ⟨rfl, hb2⟩
      obtain ⟨K_f0, B_w2, l_w2⟩ := blk1 hb2
      replace G := Lib.hid (G.out.keep B_w2)
      replace HA := Lib.hid (HA.out.keep B_w2)
      replace K_c := Lib.hid (K_c.out.keep B_w2)
      replace HB := Lib.hid (below_next HB.out B_w2)
      have K_f := Lib.hid K_f0
      clear hb2 B_w2 K_f0
      clear cK_c_0 cK_c_1 zK_c
      have cK_c_0 := K_c.out.cell 0
      have cK_c_1 := K_c.out.cell 1
      simp at cK_c_0 cK_c_1
      have zK_c := K_c.out.lt
      have cK_f_0 := K_f.out.cell 0
      have cK_f_1 := K_f.out.cell 1
      simp at cK_f_0 cK_f_1
      have zK_f := K_f.out.lt
      go_wp2_with fail
      go_ret
      exact ⟨rfl, below_next HB.out (below_alloc (below_new _ _) _)⟩
end Go.Proofs.Ytecgmgidfjbamaa
