/- The walk of LearnTrue: it returns true. (Printed by wip/tools/learnlaws.py.) -/
import Derived.Test.YtabjbpkojbdgaaaLearnKit
import Derived.Test.YtabjbpkojbdgaaaHeavy
import Derived.Test.YtabjbpkojbdgaaaShortFn
import Derived.Test.YtabjbpkojbdgaaaOverR
import Derived.Test.YtabjbpkojbdgaaaSatR
namespace Go.Proofs.Ytabjbpkojbdgaaa
open Go.RowKit

set_option maxHeartbeats 4000000 in
set_option maxRecDepth 100000 in
theorem learnTrue_walk {vars : Int} {A B X : Option Addr} {n c m d p e : Nat} {xss : List (List Int)} {l : List Int} {av : List Bool} (w : World) (hv : I64 vars) (h : Grid w A n c xss) (h' : Ints w B m d l) (h'' : Bools w X p e av) :
    Calls Try.prog 5 #[.agg #[.int .i64 vars, .slice A n c], .slice B m d, .slice X p e] w fun e w' => e = .returned (.bool true) ∧ Below w.heap.size w w' := by
  have hbd := h.bd
  have hbd'' := h''.bd
  have G := Lib.hid h
  have I := Lib.hid h'
  have BA := Lib.hid h''
  have hn63 : n ≤ 9223372036854775807 := by omega
  obtain ⟨hvy, hhv⟩ : ∃ r, Hid ((decide (40 < vars) || decide (60 < (n : Int))) = r) := ⟨_, rfl⟩
  obtain ⟨r1, r2, hr⟩ : ∃ r1 r2, Hid (besideR vars xss l = (r1, r2)) := ⟨_, _, rfl⟩
  clear h h' h''
  cases hvy
  rotate_left
  · go_enter Try.func5, Try.ntmps5
    go_wp2_with fail
    refine (heavy_any _ _ _ _ _ hn63 _ hhv).mono ?_
    rintro e w1 ⟨rfl, hb1⟩
    obtain ⟨K_c0, B_w1, l_w1⟩ := blk1 hb1
    replace G := Lib.hid (G.out.keep B_w1)
    replace I := Lib.hid (I.out.keep B_w1)
    replace BA := Lib.hid (BA.out.keep B_w1)
    have HB := Lib.hid B_w1
    have K_c := Lib.hid K_c0
    clear hb1 B_w1 K_c0
    have cK_c_0 := K_c.out.cell 0
    have cK_c_1 := K_c.out.cell 1
    simp at cK_c_0 cK_c_1
    have zK_c := K_c.out.lt
    go_wp2_with fail
    go_ret
    exact ⟨rfl, HB.out⟩
  by_cases hr1 : r1 = 0
  · subst hr1
    obtain ⟨hr0, hc0, hll⟩ := besideR_ok (vars := vars) (xss := xss) (l := l) (by rw [hr.out])
    obtain rfl : r2 = 0 := by rw [hr.out] at hr0; simpa using hr0
    obtain ⟨_, v0, v1, hn400, hrows⟩ := checkC_ok hc0
    have v6 : vars ≤ 1000000 := by omega
    have v3 : vars ≤ 1000 := by omega
    have HC : Hid (∀ x ∈ xss, Lits vars x) := fun x hx => (hrows x hx).2
    have HLL := Lib.hid hll
    obtain ⟨t, y, v, z, a, ha⟩ : ∃ t y v z a, Hid (startF vars xss l = (t, y, v, z, a)) := ⟨_, _, _, _, _, rfl⟩
    clear hr0 hc0 hrows hll hn400
    by_cases hneg : a < 0
    · go_enter Try.func5, Try.ntmps5
      go_wp2_with fail
      refine (heavy_any _ _ _ _ _ hn63 _ hhv).mono ?_
      rintro e w1 ⟨rfl, hb1⟩
      obtain ⟨K_c0, B_w1, l_w1⟩ := blk1 hb1
      replace G := Lib.hid (G.out.keep B_w1)
      replace I := Lib.hid (I.out.keep B_w1)
      replace BA := Lib.hid (BA.out.keep B_w1)
      have HB := Lib.hid B_w1
      have K_c := Lib.hid K_c0
      clear hb1 B_w1 K_c0
      have cK_c_0 := K_c.out.cell 0
      have cK_c_1 := K_c.out.cell 1
      simp at cK_c_0 cK_c_1
      have zK_c := K_c.out.lt
      go_wp2_with fail
      refine (learnClause_none _ _ _ _ _ _ xss l vars w1 G.out hv I.out hr t y v z a ha hneg).mono ?_
      rintro e w2 ⟨rfl, hb2⟩
      have B_w2 := hb2
      replace G := Lib.hid (G.out.keep B_w2)
      replace I := Lib.hid (I.out.keep B_w2)
      replace BA := Lib.hid (BA.out.keep B_w2)
      replace K_c := Lib.hid (K_c.out.keep B_w2)
      replace HB := Lib.hid (below_next HB.out B_w2)
      clear hb2 B_w2
      clear cK_c_0 cK_c_1 zK_c
      have cK_c_0 := K_c.out.cell 0
      have cK_c_1 := K_c.out.cell 1
      simp at cK_c_0 cK_c_1
      have zK_c := K_c.out.lt
      go_wp2_with fail
      refine (learnShort_none _ _ _ _ _ _ xss l vars (w2.alloc (.cells #[.int .i64 6, .int .i64 0] 28)) (G.out.keep (below_new _ _)) hv (I.out.keep (below_new _ _)) hr t y v z a ha hneg).mono ?_
      rintro e w3 ⟨rfl, hb3⟩
      obtain ⟨K_f0, B_w3, l_w3⟩ := blk1 hb3
      replace G := Lib.hid (G.out.keep B_w3)
      replace I := Lib.hid (I.out.keep B_w3)
      replace BA := Lib.hid (BA.out.keep B_w3)
      replace K_c := Lib.hid (K_c.out.keep B_w3)
      replace HB := Lib.hid (below_next HB.out B_w3)
      have K_f := Lib.hid K_f0
      clear hb3 B_w3 K_f0
      clear cK_c_0 cK_c_1 zK_c
      have cK_c_0 := K_c.out.cell 0
      have cK_c_1 := K_c.out.cell 1
      simp at cK_c_0 cK_c_1
      have zK_c := K_c.out.lt
      have cK_f_0 := K_f.out.cell 0
      have cK_f_1 := K_f.out.cell 1
      simp at cK_f_0 cK_f_1
      have zK_f := K_f.out.lt
      go_wp2_with fail
      refine (round_any _).mono ?_
      rintro e w4 ⟨A5, n5, c5, rfl, hG5, hb4⟩
      obtain ⟨K_x0, B_w4, l_w4⟩ := blk1 hb4
      replace G := Lib.hid (G.out.keep B_w4)
      replace I := Lib.hid (I.out.keep B_w4)
      replace BA := Lib.hid (BA.out.keep B_w4)
      replace K_c := Lib.hid (K_c.out.keep B_w4)
      replace K_f := Lib.hid (K_f.out.keep B_w4)
      replace HB := Lib.hid (below_next HB.out B_w4)
      have K_x := Lib.hid K_x0
      clear hb4 B_w4 K_x0
      clear cK_c_0 cK_c_1 zK_c cK_f_0 cK_f_1 zK_f
      have cK_c_0 := K_c.out.cell 0
      have cK_c_1 := K_c.out.cell 1
      simp at cK_c_0 cK_c_1
      have zK_c := K_c.out.lt
      have cK_f_0 := K_f.out.cell 0
      have cK_f_1 := K_f.out.cell 1
      simp at cK_f_0 cK_f_1
      have zK_f := K_f.out.lt
      have cK_x_0 := K_x.out.cell 0
      have cK_x_1 := K_x.out.cell 1
      simp at cK_x_0 cK_x_1
      have zK_x := K_x.out.lt
      have GP := Lib.hid hG5
      clear hG5
      go_wp2_with fail
      have hone := learnClause_own _ _ _ _ _ _ [[-1, 2], [-1, -2]] [1] 2 _ (GP.out.keep (below_new _ _)) ⟨by omega, by omega⟩ (ints_made _ 3 [1] rfl (by simp [I64]) (by decide)) (by show _ = _; decide) [1, 2] [-1, 0] [1, 1] 1 1 (by show _ = _; decide) (by omega)
      rw [show taughtF [[-1, 2], [-1, -2]] [1, 2] [-1, 0] [1, 1] 1 1 = [-1] by decide, show backF [1, 2] [1, 1] ((1 : Nat) : Int) [-1] 0 = 0 by decide] at hone
      refine hone.mono ?_
      clear hone
      rintro e w5 ⟨L5, nl5, cl5, rfl, hI5, hb5⟩
      obtain ⟨K_o0, B_w5, l_w5⟩ := blk1 hb5
      replace G := Lib.hid (G.out.keep B_w5)
      replace I := Lib.hid (I.out.keep B_w5)
      replace BA := Lib.hid (BA.out.keep B_w5)
      replace GP := Lib.hid (GP.out.keep B_w5)
      replace K_c := Lib.hid (K_c.out.keep B_w5)
      replace K_f := Lib.hid (K_f.out.keep B_w5)
      replace K_x := Lib.hid (K_x.out.keep B_w5)
      replace HB := Lib.hid (below_next HB.out B_w5)
      have K_o := Lib.hid K_o0
      clear hb5 B_w5 K_o0
      clear cK_c_0 cK_c_1 zK_c cK_f_0 cK_f_1 zK_f cK_x_0 cK_x_1 zK_x
      have cK_c_0 := K_c.out.cell 0
      have cK_c_1 := K_c.out.cell 1
      simp at cK_c_0 cK_c_1
      have zK_c := K_c.out.lt
      have cK_f_0 := K_f.out.cell 0
      have cK_f_1 := K_f.out.cell 1
      simp at cK_f_0 cK_f_1
      have zK_f := K_f.out.lt
      have cK_x_0 := K_x.out.cell 0
      have cK_x_1 := K_x.out.cell 1
      simp at cK_x_0 cK_x_1
      have zK_x := K_x.out.lt
      have cK_o_0 := K_o.out.cell 0
      simp at cK_o_0
      have zK_o := K_o.out.lt
      have IO := Lib.hid hI5
      clear hI5
      go_wp2_with fail
      refine (same_any _ _ _ _ _ _ [-1] [-1] _ (IO.out.keep (below_alloc (below_new _ _) _)) (ints_made _ 3 [-1] (by simp) (by simp [I64]) (by decide)) true (by show _ = _; rfl)).mono ?_
      rintro e w6 hq6
      obtain ⟨rfl, hb6⟩ := hq6.v
      clear hq6
      obtain ⟨K_g0, K_m0, B_w6, l_w6⟩ := two_blks hb6
      replace G := Lib.hid (G.out.keep B_w6)
      replace I := Lib.hid (I.out.keep B_w6)
      replace BA := Lib.hid (BA.out.keep B_w6)
      replace GP := Lib.hid (GP.out.keep B_w6)
      replace IO := Lib.hid (IO.out.keep B_w6)
      replace K_c := Lib.hid (K_c.out.keep B_w6)
      replace K_f := Lib.hid (K_f.out.keep B_w6)
      replace K_x := Lib.hid (K_x.out.keep B_w6)
      replace K_o := Lib.hid (K_o.out.keep B_w6)
      replace HB := Lib.hid (below_next HB.out B_w6)
      have K_g := Lib.hid K_g0
      have K_m := Lib.hid K_m0
      clear hb6 B_w6 K_g0 K_m0
      clear cK_c_0 cK_c_1 zK_c cK_f_0 cK_f_1 zK_f cK_x_0 cK_x_1 zK_x cK_o_0 zK_o
      have cK_c_0 := K_c.out.cell 0
      have cK_c_1 := K_c.out.cell 1
      simp at cK_c_0 cK_c_1
      have zK_c := K_c.out.lt
      have cK_f_0 := K_f.out.cell 0
      have cK_f_1 := K_f.out.cell 1
      simp at cK_f_0 cK_f_1
      have zK_f := K_f.out.lt
      have cK_x_0 := K_x.out.cell 0
      have cK_x_1 := K_x.out.cell 1
      simp at cK_x_0 cK_x_1
      have zK_x := K_x.out.lt
      have cK_o_0 := K_o.out.cell 0
      simp at cK_o_0
      have zK_o := K_o.out.lt
      have cK_g_0 := K_g.out.cell 0
      have cK_g_1 := K_g.out.cell 1
      simp at cK_g_0 cK_g_1
      have zK_g := K_g.out.lt
      have cK_m_0 := K_m.out.cell 0
      simp at cK_m_0
      have zK_m := K_m.out.lt
      go_wp2_with fail
      go_ret
      exact ⟨rfl, HB.out⟩
    · go_enter Try.func5, Try.ntmps5
      go_wp2_with fail
      refine (heavy_any _ _ _ _ _ hn63 _ hhv).mono ?_
      rintro e w1 ⟨rfl, hb1⟩
      obtain ⟨K_c0, B_w1, l_w1⟩ := blk1 hb1
      replace G := Lib.hid (G.out.keep B_w1)
      replace I := Lib.hid (I.out.keep B_w1)
      replace BA := Lib.hid (BA.out.keep B_w1)
      have HB := Lib.hid B_w1
      have K_c := Lib.hid K_c0
      clear hb1 B_w1 K_c0
      have cK_c_0 := K_c.out.cell 0
      have cK_c_1 := K_c.out.cell 1
      simp at cK_c_0 cK_c_1
      have zK_c := K_c.out.lt
      have HTd : Hid (Told vars xss t y v z a) := by have := startF_told (q := l) v0 HC.out HLL.out.1; rw [ha.out] at this; exact this
      have hpos : 0 ≤ a := by omega
      obtain ⟨R, hR⟩ : ∃ R, Hid (taughtF xss t y v z a = R) := ⟨_, rfl⟩
      obtain ⟨bk, hbk⟩ : ∃ bk, Hid (backF t v z R 0 = bk) := ⟨_, rfl⟩
      obtain ⟨S, hS⟩ : ∃ S, Hid (shortF xss t y v R = S) := ⟨_, rfl⟩
      have HRL : Hid (Lits vars R) := by have := taught_lits HTd.out HC.out hpos; rw [hR.out] at this; exact this
      have HSR : Hid (∀ x ∈ S, x ∈ R) := fun x hx => by rw [← hS.out] at hx; exact (List.mem_filter.1 hx).1
      go_wp2_with fail
      have hown := learnClause_own _ _ _ _ _ _ xss l vars w1 G.out hv I.out hr t y v z a ha hpos
      rw [hR.out, hbk.out] at hown
      refine hown.mono ?_
      clear hown
      rintro e w2 ⟨L2, nl2, cl2, rfl, hI2, hb2⟩
      have B_w2 := hb2
      replace G := Lib.hid (G.out.keep B_w2)
      replace I := Lib.hid (I.out.keep B_w2)
      replace BA := Lib.hid (BA.out.keep B_w2)
      replace K_c := Lib.hid (K_c.out.keep B_w2)
      replace HB := Lib.hid (below_next HB.out B_w2)
      clear hb2 B_w2
      clear cK_c_0 cK_c_1 zK_c
      have cK_c_0 := K_c.out.cell 0
      have cK_c_1 := K_c.out.cell 1
      simp at cK_c_0 cK_c_1
      have zK_c := K_c.out.lt
      have IL := Lib.hid hI2
      clear hI2
      go_wp2_with fail
      have hown := learnShort_own _ _ _ _ _ _ xss l vars (w2.alloc (.cells #[.int .i64 0, .int .i64 0] 28)) (G.out.keep (below_new _ _)) hv (I.out.keep (below_new _ _)) hr t y v z a ha hpos
      rw [hR.out, hS.out] at hown
      refine hown.mono ?_
      clear hown
      rintro e w3 ⟨L3, nl3, cl3, rfl, hI3, hb3⟩
      obtain ⟨K_f0, B_w3, l_w3⟩ := blk1 hb3
      replace G := Lib.hid (G.out.keep B_w3)
      replace I := Lib.hid (I.out.keep B_w3)
      replace BA := Lib.hid (BA.out.keep B_w3)
      replace IL := Lib.hid (IL.out.keep B_w3)
      replace K_c := Lib.hid (K_c.out.keep B_w3)
      replace HB := Lib.hid (below_next HB.out B_w3)
      have K_f := Lib.hid K_f0
      clear hb3 B_w3 K_f0
      clear cK_c_0 cK_c_1 zK_c
      have cK_c_0 := K_c.out.cell 0
      have cK_c_1 := K_c.out.cell 1
      simp at cK_c_0 cK_c_1
      have zK_c := K_c.out.lt
      have cK_f_0 := K_f.out.cell 0
      have cK_f_1 := K_f.out.cell 1
      simp at cK_f_0 cK_f_1
      have zK_f := K_f.out.lt
      have IS := Lib.hid hI3
      clear hI3
      go_wp2_with fail
      refine (round_any _).mono ?_
      rintro e w4 ⟨A5, n5, c5, rfl, hG5, hb4⟩
      obtain ⟨K_x0, B_w4, l_w4⟩ := blk1 hb4
      replace G := Lib.hid (G.out.keep B_w4)
      replace I := Lib.hid (I.out.keep B_w4)
      replace BA := Lib.hid (BA.out.keep B_w4)
      replace IL := Lib.hid (IL.out.keep B_w4)
      replace IS := Lib.hid (IS.out.keep B_w4)
      replace K_c := Lib.hid (K_c.out.keep B_w4)
      replace K_f := Lib.hid (K_f.out.keep B_w4)
      replace HB := Lib.hid (below_next HB.out B_w4)
      have K_x := Lib.hid K_x0
      clear hb4 B_w4 K_x0
      clear cK_c_0 cK_c_1 zK_c cK_f_0 cK_f_1 zK_f
      have cK_c_0 := K_c.out.cell 0
      have cK_c_1 := K_c.out.cell 1
      simp at cK_c_0 cK_c_1
      have zK_c := K_c.out.lt
      have cK_f_0 := K_f.out.cell 0
      have cK_f_1 := K_f.out.cell 1
      simp at cK_f_0 cK_f_1
      have zK_f := K_f.out.lt
      have cK_x_0 := K_x.out.cell 0
      have cK_x_1 := K_x.out.cell 1
      simp at cK_x_0 cK_x_1
      have zK_x := K_x.out.lt
      have GP := Lib.hid hG5
      clear hG5
      go_wp2_with fail
      have hone := learnClause_own _ _ _ _ _ _ [[-1, 2], [-1, -2]] [1] 2 _ (GP.out.keep (below_new _ _)) ⟨by omega, by omega⟩ (ints_made _ 3 [1] rfl (by simp [I64]) (by decide)) (by show _ = _; decide) [1, 2] [-1, 0] [1, 1] 1 1 (by show _ = _; decide) (by omega)
      rw [show taughtF [[-1, 2], [-1, -2]] [1, 2] [-1, 0] [1, 1] 1 1 = [-1] by decide, show backF [1, 2] [1, 1] ((1 : Nat) : Int) [-1] 0 = 0 by decide] at hone
      refine hone.mono ?_
      clear hone
      rintro e w5 ⟨L5, nl5, cl5, rfl, hI5, hb5⟩
      obtain ⟨K_o0, B_w5, l_w5⟩ := blk1 hb5
      replace G := Lib.hid (G.out.keep B_w5)
      replace I := Lib.hid (I.out.keep B_w5)
      replace BA := Lib.hid (BA.out.keep B_w5)
      replace IL := Lib.hid (IL.out.keep B_w5)
      replace IS := Lib.hid (IS.out.keep B_w5)
      replace GP := Lib.hid (GP.out.keep B_w5)
      replace K_c := Lib.hid (K_c.out.keep B_w5)
      replace K_f := Lib.hid (K_f.out.keep B_w5)
      replace K_x := Lib.hid (K_x.out.keep B_w5)
      replace HB := Lib.hid (below_next HB.out B_w5)
      have K_o := Lib.hid K_o0
      clear hb5 B_w5 K_o0
      clear cK_c_0 cK_c_1 zK_c cK_f_0 cK_f_1 zK_f cK_x_0 cK_x_1 zK_x
      have cK_c_0 := K_c.out.cell 0
      have cK_c_1 := K_c.out.cell 1
      simp at cK_c_0 cK_c_1
      have zK_c := K_c.out.lt
      have cK_f_0 := K_f.out.cell 0
      have cK_f_1 := K_f.out.cell 1
      simp at cK_f_0 cK_f_1
      have zK_f := K_f.out.lt
      have cK_x_0 := K_x.out.cell 0
      have cK_x_1 := K_x.out.cell 1
      simp at cK_x_0 cK_x_1
      have zK_x := K_x.out.lt
      have cK_o_0 := K_o.out.cell 0
      simp at cK_o_0
      have zK_o := K_o.out.lt
      have IO := Lib.hid hI5
      clear hI5
      go_wp2_with fail
      refine (same_any _ _ _ _ _ _ [-1] [-1] _ (IO.out.keep (below_alloc (below_new _ _) _)) (ints_made _ 3 [-1] (by simp) (by simp [I64]) (by decide)) true (by show _ = _; rfl)).mono ?_
      rintro e w6 hq6
      obtain ⟨rfl, hb6⟩ := hq6.v
      clear hq6
      obtain ⟨K_g0, K_m0, B_w6, l_w6⟩ := two_blks hb6
      replace G := Lib.hid (G.out.keep B_w6)
      replace I := Lib.hid (I.out.keep B_w6)
      replace BA := Lib.hid (BA.out.keep B_w6)
      replace IL := Lib.hid (IL.out.keep B_w6)
      replace IS := Lib.hid (IS.out.keep B_w6)
      replace GP := Lib.hid (GP.out.keep B_w6)
      replace IO := Lib.hid (IO.out.keep B_w6)
      replace K_c := Lib.hid (K_c.out.keep B_w6)
      replace K_f := Lib.hid (K_f.out.keep B_w6)
      replace K_x := Lib.hid (K_x.out.keep B_w6)
      replace K_o := Lib.hid (K_o.out.keep B_w6)
      replace HB := Lib.hid (below_next HB.out B_w6)
      have K_g := Lib.hid K_g0
      have K_m := Lib.hid K_m0
      clear hb6 B_w6 K_g0 K_m0
      clear cK_c_0 cK_c_1 zK_c cK_f_0 cK_f_1 zK_f cK_x_0 cK_x_1 zK_x cK_o_0 zK_o
      have cK_c_0 := K_c.out.cell 0
      have cK_c_1 := K_c.out.cell 1
      simp at cK_c_0 cK_c_1
      have zK_c := K_c.out.lt
      have cK_f_0 := K_f.out.cell 0
      have cK_f_1 := K_f.out.cell 1
      simp at cK_f_0 cK_f_1
      have zK_f := K_f.out.lt
      have cK_x_0 := K_x.out.cell 0
      have cK_x_1 := K_x.out.cell 1
      simp at cK_x_0 cK_x_1
      have zK_x := K_x.out.lt
      have cK_o_0 := K_o.out.cell 0
      simp at cK_o_0
      have zK_o := K_o.out.lt
      have cK_g_0 := K_g.out.cell 0
      have cK_g_1 := K_g.out.cell 1
      simp at cK_g_0 cK_g_1
      have zK_g := K_g.out.lt
      have cK_m_0 := K_m.out.cell 0
      simp at cK_m_0
      have zK_m := K_m.out.lt
      go_wp2_with fail
      refine (wrong_any _ _ _ R vars _ IL.out v0 v6 0 0 (lits_iff.1 HRL.out)).mono ?_
      rintro e w7 hq7
      obtain ⟨rfl, hb7⟩ := hq7.v
      clear hq7
      have B_w7 := hb7
      replace G := Lib.hid (G.out.keep B_w7)
      replace I := Lib.hid (I.out.keep B_w7)
      replace BA := Lib.hid (BA.out.keep B_w7)
      replace IL := Lib.hid (IL.out.keep B_w7)
      replace IS := Lib.hid (IS.out.keep B_w7)
      replace GP := Lib.hid (GP.out.keep B_w7)
      replace IO := Lib.hid (IO.out.keep B_w7)
      replace K_c := Lib.hid (K_c.out.keep B_w7)
      replace K_f := Lib.hid (K_f.out.keep B_w7)
      replace K_x := Lib.hid (K_x.out.keep B_w7)
      replace K_o := Lib.hid (K_o.out.keep B_w7)
      replace K_g := Lib.hid (K_g.out.keep B_w7)
      replace K_m := Lib.hid (K_m.out.keep B_w7)
      replace HB := Lib.hid (below_next HB.out B_w7)
      clear hb7 B_w7
      clear cK_c_0 cK_c_1 zK_c cK_f_0 cK_f_1 zK_f cK_x_0 cK_x_1 zK_x cK_o_0 zK_o cK_g_0 cK_g_1 zK_g cK_m_0 zK_m
      have cK_c_0 := K_c.out.cell 0
      have cK_c_1 := K_c.out.cell 1
      simp at cK_c_0 cK_c_1
      have zK_c := K_c.out.lt
      have cK_f_0 := K_f.out.cell 0
      have cK_f_1 := K_f.out.cell 1
      simp at cK_f_0 cK_f_1
      have zK_f := K_f.out.lt
      have cK_x_0 := K_x.out.cell 0
      have cK_x_1 := K_x.out.cell 1
      simp at cK_x_0 cK_x_1
      have zK_x := K_x.out.lt
      have cK_o_0 := K_o.out.cell 0
      simp at cK_o_0
      have zK_o := K_o.out.lt
      have cK_g_0 := K_g.out.cell 0
      have cK_g_1 := K_g.out.cell 1
      simp at cK_g_0 cK_g_1
      have zK_g := K_g.out.lt
      have cK_m_0 := K_m.out.cell 0
      simp at cK_m_0
      have zK_m := K_m.out.lt
      go_wp2_with fail
      refine (over_ref _ _ _ _ _ _ S R _ IS.out IL.out true (by show _ = _; unfold overF; rw [List.all_eq_true]; exact fun x hx => hasB_iff.2 (HSR.out x hx))).mono ?_
      rintro e w8 hq8
      obtain ⟨rfl, hb8⟩ := hq8.v
      clear hq8
      have B_w8 := hb8
      replace G := Lib.hid (G.out.keep B_w8)
      replace I := Lib.hid (I.out.keep B_w8)
      replace BA := Lib.hid (BA.out.keep B_w8)
      replace IL := Lib.hid (IL.out.keep B_w8)
      replace IS := Lib.hid (IS.out.keep B_w8)
      replace GP := Lib.hid (GP.out.keep B_w8)
      replace IO := Lib.hid (IO.out.keep B_w8)
      replace K_c := Lib.hid (K_c.out.keep B_w8)
      replace K_f := Lib.hid (K_f.out.keep B_w8)
      replace K_x := Lib.hid (K_x.out.keep B_w8)
      replace K_o := Lib.hid (K_o.out.keep B_w8)
      replace K_g := Lib.hid (K_g.out.keep B_w8)
      replace K_m := Lib.hid (K_m.out.keep B_w8)
      replace HB := Lib.hid (below_next HB.out B_w8)
      clear hb8 B_w8
      clear cK_c_0 cK_c_1 zK_c cK_f_0 cK_f_1 zK_f cK_x_0 cK_x_1 zK_x cK_o_0 zK_o cK_g_0 cK_g_1 zK_g cK_m_0 zK_m
      have cK_c_0 := K_c.out.cell 0
      have cK_c_1 := K_c.out.cell 1
      simp at cK_c_0 cK_c_1
      have zK_c := K_c.out.lt
      have cK_f_0 := K_f.out.cell 0
      have cK_f_1 := K_f.out.cell 1
      simp at cK_f_0 cK_f_1
      have zK_f := K_f.out.lt
      have cK_x_0 := K_x.out.cell 0
      have cK_x_1 := K_x.out.cell 1
      simp at cK_x_0 cK_x_1
      have zK_x := K_x.out.lt
      have cK_o_0 := K_o.out.cell 0
      simp at cK_o_0
      have zK_o := K_o.out.lt
      have cK_g_0 := K_g.out.cell 0
      have cK_g_1 := K_g.out.cell 1
      simp at cK_g_0 cK_g_1
      have zK_g := K_g.out.lt
      have cK_m_0 := K_m.out.cell 0
      simp at cK_m_0
      have zK_m := K_m.out.lt
      by_cases hlen : (p : Int) = vars
      · have dlen : ((p : Int) == vars) = true := by rw [beq_iff_eq]; exact hlen
        obtain ⟨q, hal⟩ : ∃ q, Hid (allB xss av = q) := ⟨_, rfl⟩
        have HIX : Hid (∀ xs ∈ xss, InLits p xs) := fun xs hx => (HC.out xs hx).inLits hlen
        have dl2 : ((p : Int) != vars) = false := by simpa using hlen
        go_wp2_with fail
        refine (all_ref _ _ _ _ _ _ xss av _ G.out BA.out HIX.out q hal).mono ?_
        rintro e w9 hq9
        obtain ⟨rfl, hb9⟩ := hq9.v
        clear hq9
        have B_w9 := hb9
        replace G := Lib.hid (G.out.keep B_w9)
        replace I := Lib.hid (I.out.keep B_w9)
        replace BA := Lib.hid (BA.out.keep B_w9)
        replace IL := Lib.hid (IL.out.keep B_w9)
        replace IS := Lib.hid (IS.out.keep B_w9)
        replace GP := Lib.hid (GP.out.keep B_w9)
        replace IO := Lib.hid (IO.out.keep B_w9)
        replace K_c := Lib.hid (K_c.out.keep B_w9)
        replace K_f := Lib.hid (K_f.out.keep B_w9)
        replace K_x := Lib.hid (K_x.out.keep B_w9)
        replace K_o := Lib.hid (K_o.out.keep B_w9)
        replace K_g := Lib.hid (K_g.out.keep B_w9)
        replace K_m := Lib.hid (K_m.out.keep B_w9)
        replace HB := Lib.hid (below_next HB.out B_w9)
        clear hb9 B_w9
        clear cK_c_0 cK_c_1 zK_c cK_f_0 cK_f_1 zK_f cK_x_0 cK_x_1 zK_x cK_o_0 zK_o cK_g_0 cK_g_1 zK_g cK_m_0 zK_m
        have cK_c_0 := K_c.out.cell 0
        have cK_c_1 := K_c.out.cell 1
        simp at cK_c_0 cK_c_1
        have zK_c := K_c.out.lt
        have cK_f_0 := K_f.out.cell 0
        have cK_f_1 := K_f.out.cell 1
        simp at cK_f_0 cK_f_1
        have zK_f := K_f.out.lt
        have cK_x_0 := K_x.out.cell 0
        have cK_x_1 := K_x.out.cell 1
        simp at cK_x_0 cK_x_1
        have zK_x := K_x.out.lt
        have cK_o_0 := K_o.out.cell 0
        simp at cK_o_0
        have zK_o := K_o.out.lt
        have cK_g_0 := K_g.out.cell 0
        have cK_g_1 := K_g.out.cell 1
        simp at cK_g_0 cK_g_1
        have zK_g := K_g.out.lt
        have cK_m_0 := K_m.out.cell 0
        simp at cK_m_0
        have zK_m := K_m.out.lt
        cases q
        · go_wp2_with fail
          go_ret
          exact ⟨rfl, HB.out⟩
        · have hsR : Hid (satB av R = true) := by rw [← hR.out]; exact taught_true HTd.out HC.out hpos hal.out
          have hsS : Hid (satB av S = true) := by rw [← hS.out]; exact short_true HTd.out HC.out (by rw [← hR.out]; exact taught_neg HTd.out HC.out hpos rfl) hal.out hsR.out
          go_wp2_with fail
          refine (sat_ref _ _ _ _ _ _ R av _ IL.out BA.out (HRL.out.inLits hlen) true hsR).mono ?_
          rintro e wa hqa
          obtain ⟨rfl, hba⟩ := hqa.v
          clear hqa
          have B_wa := hba
          replace G := Lib.hid (G.out.keep B_wa)
          replace I := Lib.hid (I.out.keep B_wa)
          replace BA := Lib.hid (BA.out.keep B_wa)
          replace IL := Lib.hid (IL.out.keep B_wa)
          replace IS := Lib.hid (IS.out.keep B_wa)
          replace GP := Lib.hid (GP.out.keep B_wa)
          replace IO := Lib.hid (IO.out.keep B_wa)
          replace K_c := Lib.hid (K_c.out.keep B_wa)
          replace K_f := Lib.hid (K_f.out.keep B_wa)
          replace K_x := Lib.hid (K_x.out.keep B_wa)
          replace K_o := Lib.hid (K_o.out.keep B_wa)
          replace K_g := Lib.hid (K_g.out.keep B_wa)
          replace K_m := Lib.hid (K_m.out.keep B_wa)
          replace HB := Lib.hid (below_next HB.out B_wa)
          clear hba B_wa
          clear cK_c_0 cK_c_1 zK_c cK_f_0 cK_f_1 zK_f cK_x_0 cK_x_1 zK_x cK_o_0 zK_o cK_g_0 cK_g_1 zK_g cK_m_0 zK_m
          have cK_c_0 := K_c.out.cell 0
          have cK_c_1 := K_c.out.cell 1
          simp at cK_c_0 cK_c_1
          have zK_c := K_c.out.lt
          have cK_f_0 := K_f.out.cell 0
          have cK_f_1 := K_f.out.cell 1
          simp at cK_f_0 cK_f_1
          have zK_f := K_f.out.lt
          have cK_x_0 := K_x.out.cell 0
          have cK_x_1 := K_x.out.cell 1
          simp at cK_x_0 cK_x_1
          have zK_x := K_x.out.lt
          have cK_o_0 := K_o.out.cell 0
          simp at cK_o_0
          have zK_o := K_o.out.lt
          have cK_g_0 := K_g.out.cell 0
          have cK_g_1 := K_g.out.cell 1
          simp at cK_g_0 cK_g_1
          have zK_g := K_g.out.lt
          have cK_m_0 := K_m.out.cell 0
          simp at cK_m_0
          have zK_m := K_m.out.lt
          go_wp2_with fail
          refine (sat_ref _ _ _ _ _ _ S av _ IS.out BA.out (fun x hx => HRL.out.inLits hlen x (HSR.out x hx)) true hsS).mono ?_
          rintro e wb hqb
          obtain ⟨rfl, hbb⟩ := hqb.v
          clear hqb
          have B_wb := hbb
          replace G := Lib.hid (G.out.keep B_wb)
          replace I := Lib.hid (I.out.keep B_wb)
          replace BA := Lib.hid (BA.out.keep B_wb)
          replace IL := Lib.hid (IL.out.keep B_wb)
          replace IS := Lib.hid (IS.out.keep B_wb)
          replace GP := Lib.hid (GP.out.keep B_wb)
          replace IO := Lib.hid (IO.out.keep B_wb)
          replace K_c := Lib.hid (K_c.out.keep B_wb)
          replace K_f := Lib.hid (K_f.out.keep B_wb)
          replace K_x := Lib.hid (K_x.out.keep B_wb)
          replace K_o := Lib.hid (K_o.out.keep B_wb)
          replace K_g := Lib.hid (K_g.out.keep B_wb)
          replace K_m := Lib.hid (K_m.out.keep B_wb)
          replace HB := Lib.hid (below_next HB.out B_wb)
          clear hbb B_wb
          clear cK_c_0 cK_c_1 zK_c cK_f_0 cK_f_1 zK_f cK_x_0 cK_x_1 zK_x cK_o_0 zK_o cK_g_0 cK_g_1 zK_g cK_m_0 zK_m
          have cK_c_0 := K_c.out.cell 0
          have cK_c_1 := K_c.out.cell 1
          simp at cK_c_0 cK_c_1
          have zK_c := K_c.out.lt
          have cK_f_0 := K_f.out.cell 0
          have cK_f_1 := K_f.out.cell 1
          simp at cK_f_0 cK_f_1
          have zK_f := K_f.out.lt
          have cK_x_0 := K_x.out.cell 0
          have cK_x_1 := K_x.out.cell 1
          simp at cK_x_0 cK_x_1
          have zK_x := K_x.out.lt
          have cK_o_0 := K_o.out.cell 0
          simp at cK_o_0
          have zK_o := K_o.out.lt
          have cK_g_0 := K_g.out.cell 0
          have cK_g_1 := K_g.out.cell 1
          simp at cK_g_0 cK_g_1
          have zK_g := K_g.out.lt
          have cK_m_0 := K_m.out.cell 0
          simp at cK_m_0
          have zK_m := K_m.out.lt
          go_wp2_with fail
          go_ret
          exact ⟨rfl, HB.out⟩
      · have dlen : ((p : Int) == vars) = false := by rw [beq_eq_false_iff_ne]; exact hlen
        have dl2 : ((p : Int) != vars) = true := by simpa using hlen
        go_wp2_with fail
        go_ret
        exact ⟨rfl, HB.out⟩
  · have d1 : (r1 != 0) = true := by simpa using hr1
    go_enter Try.func5, Try.ntmps5
    go_wp2_with fail
    refine (heavy_any _ _ _ _ _ hn63 _ hhv).mono ?_
    rintro e w1 ⟨rfl, hb1⟩
    obtain ⟨K_c0, B_w1, l_w1⟩ := blk1 hb1
    replace G := Lib.hid (G.out.keep B_w1)
    replace I := Lib.hid (I.out.keep B_w1)
    replace BA := Lib.hid (BA.out.keep B_w1)
    have HB := Lib.hid B_w1
    have K_c := Lib.hid K_c0
    clear hb1 B_w1 K_c0
    have cK_c_0 := K_c.out.cell 0
    have cK_c_1 := K_c.out.cell 1
    simp at cK_c_0 cK_c_1
    have zK_c := K_c.out.lt
    go_wp2_with fail
    refine (learnClause_wrong _ _ _ _ _ _ xss l vars w1 G.out hv I.out r1 r2 hr hr1).mono ?_
    rintro e w2 ⟨rfl, hb2⟩
    have B_w2 := hb2
    replace G := Lib.hid (G.out.keep B_w2)
    replace I := Lib.hid (I.out.keep B_w2)
    replace BA := Lib.hid (BA.out.keep B_w2)
    replace K_c := Lib.hid (K_c.out.keep B_w2)
    replace HB := Lib.hid (below_next HB.out B_w2)
    clear hb2 B_w2
    clear cK_c_0 cK_c_1 zK_c
    have cK_c_0 := K_c.out.cell 0
    have cK_c_1 := K_c.out.cell 1
    simp at cK_c_0 cK_c_1
    have zK_c := K_c.out.lt
    go_wp2_with fail
    refine (learnShort_wrong _ _ _ _ _ _ xss l vars (w2.alloc (.cells #[.int .i64 r1, .int .i64 r2] 28)) (G.out.keep (below_new _ _)) hv (I.out.keep (below_new _ _)) r1 r2 hr hr1).mono ?_
    rintro e w3 ⟨rfl, hb3⟩
    obtain ⟨K_f0, B_w3, l_w3⟩ := blk1 hb3
    replace G := Lib.hid (G.out.keep B_w3)
    replace I := Lib.hid (I.out.keep B_w3)
    replace BA := Lib.hid (BA.out.keep B_w3)
    replace K_c := Lib.hid (K_c.out.keep B_w3)
    replace HB := Lib.hid (below_next HB.out B_w3)
    have K_f := Lib.hid K_f0
    clear hb3 B_w3 K_f0
    clear cK_c_0 cK_c_1 zK_c
    have cK_c_0 := K_c.out.cell 0
    have cK_c_1 := K_c.out.cell 1
    simp at cK_c_0 cK_c_1
    have zK_c := K_c.out.lt
    have cK_f_0 := K_f.out.cell 0
    have cK_f_1 := K_f.out.cell 1
    simp at cK_f_0 cK_f_1
    have zK_f := K_f.out.lt
    go_wp2_with fail
    refine (round_any _).mono ?_
    rintro e w4 ⟨A5, n5, c5, rfl, hG5, hb4⟩
    obtain ⟨K_x0, B_w4, l_w4⟩ := blk1 hb4
    replace G := Lib.hid (G.out.keep B_w4)
    replace I := Lib.hid (I.out.keep B_w4)
    replace BA := Lib.hid (BA.out.keep B_w4)
    replace K_c := Lib.hid (K_c.out.keep B_w4)
    replace K_f := Lib.hid (K_f.out.keep B_w4)
    replace HB := Lib.hid (below_next HB.out B_w4)
    have K_x := Lib.hid K_x0
    clear hb4 B_w4 K_x0
    clear cK_c_0 cK_c_1 zK_c cK_f_0 cK_f_1 zK_f
    have cK_c_0 := K_c.out.cell 0
    have cK_c_1 := K_c.out.cell 1
    simp at cK_c_0 cK_c_1
    have zK_c := K_c.out.lt
    have cK_f_0 := K_f.out.cell 0
    have cK_f_1 := K_f.out.cell 1
    simp at cK_f_0 cK_f_1
    have zK_f := K_f.out.lt
    have cK_x_0 := K_x.out.cell 0
    have cK_x_1 := K_x.out.cell 1
    simp at cK_x_0 cK_x_1
    have zK_x := K_x.out.lt
    have GP := Lib.hid hG5
    clear hG5
    go_wp2_with fail
    have hone := learnClause_own _ _ _ _ _ _ [[-1, 2], [-1, -2]] [1] 2 _ (GP.out.keep (below_new _ _)) ⟨by omega, by omega⟩ (ints_made _ 3 [1] rfl (by simp [I64]) (by decide)) (by show _ = _; decide) [1, 2] [-1, 0] [1, 1] 1 1 (by show _ = _; decide) (by omega)
    rw [show taughtF [[-1, 2], [-1, -2]] [1, 2] [-1, 0] [1, 1] 1 1 = [-1] by decide, show backF [1, 2] [1, 1] ((1 : Nat) : Int) [-1] 0 = 0 by decide] at hone
    refine hone.mono ?_
    clear hone
    rintro e w5 ⟨L5, nl5, cl5, rfl, hI5, hb5⟩
    obtain ⟨K_o0, B_w5, l_w5⟩ := blk1 hb5
    replace G := Lib.hid (G.out.keep B_w5)
    replace I := Lib.hid (I.out.keep B_w5)
    replace BA := Lib.hid (BA.out.keep B_w5)
    replace GP := Lib.hid (GP.out.keep B_w5)
    replace K_c := Lib.hid (K_c.out.keep B_w5)
    replace K_f := Lib.hid (K_f.out.keep B_w5)
    replace K_x := Lib.hid (K_x.out.keep B_w5)
    replace HB := Lib.hid (below_next HB.out B_w5)
    have K_o := Lib.hid K_o0
    clear hb5 B_w5 K_o0
    clear cK_c_0 cK_c_1 zK_c cK_f_0 cK_f_1 zK_f cK_x_0 cK_x_1 zK_x
    have cK_c_0 := K_c.out.cell 0
    have cK_c_1 := K_c.out.cell 1
    simp at cK_c_0 cK_c_1
    have zK_c := K_c.out.lt
    have cK_f_0 := K_f.out.cell 0
    have cK_f_1 := K_f.out.cell 1
    simp at cK_f_0 cK_f_1
    have zK_f := K_f.out.lt
    have cK_x_0 := K_x.out.cell 0
    have cK_x_1 := K_x.out.cell 1
    simp at cK_x_0 cK_x_1
    have zK_x := K_x.out.lt
    have cK_o_0 := K_o.out.cell 0
    simp at cK_o_0
    have zK_o := K_o.out.lt
    have IO := Lib.hid hI5
    clear hI5
    go_wp2_with fail
    refine (same_any _ _ _ _ _ _ [-1] [-1] _ (IO.out.keep (below_alloc (below_new _ _) _)) (ints_made _ 3 [-1] (by simp) (by simp [I64]) (by decide)) true (by show _ = _; rfl)).mono ?_
    rintro e w6 hq6
    obtain ⟨rfl, hb6⟩ := hq6.v
    clear hq6
    obtain ⟨K_g0, K_m0, B_w6, l_w6⟩ := two_blks hb6
    replace G := Lib.hid (G.out.keep B_w6)
    replace I := Lib.hid (I.out.keep B_w6)
    replace BA := Lib.hid (BA.out.keep B_w6)
    replace GP := Lib.hid (GP.out.keep B_w6)
    replace IO := Lib.hid (IO.out.keep B_w6)
    replace K_c := Lib.hid (K_c.out.keep B_w6)
    replace K_f := Lib.hid (K_f.out.keep B_w6)
    replace K_x := Lib.hid (K_x.out.keep B_w6)
    replace K_o := Lib.hid (K_o.out.keep B_w6)
    replace HB := Lib.hid (below_next HB.out B_w6)
    have K_g := Lib.hid K_g0
    have K_m := Lib.hid K_m0
    clear hb6 B_w6 K_g0 K_m0
    clear cK_c_0 cK_c_1 zK_c cK_f_0 cK_f_1 zK_f cK_x_0 cK_x_1 zK_x cK_o_0 zK_o
    have cK_c_0 := K_c.out.cell 0
    have cK_c_1 := K_c.out.cell 1
    simp at cK_c_0 cK_c_1
    have zK_c := K_c.out.lt
    have cK_f_0 := K_f.out.cell 0
    have cK_f_1 := K_f.out.cell 1
    simp at cK_f_0 cK_f_1
    have zK_f := K_f.out.lt
    have cK_x_0 := K_x.out.cell 0
    have cK_x_1 := K_x.out.cell 1
    simp at cK_x_0 cK_x_1
    have zK_x := K_x.out.lt
    have cK_o_0 := K_o.out.cell 0
    simp at cK_o_0
    have zK_o := K_o.out.lt
    have cK_g_0 := K_g.out.cell 0
    have cK_g_1 := K_g.out.cell 1
    simp at cK_g_0 cK_g_1
    have zK_g := K_g.out.lt
    have cK_m_0 := K_m.out.cell 0
    simp at cK_m_0
    have zK_m := K_m.out.lt
    have e1 : (r1 == r1) = true := by simp
    have e2 : (r2 == r2) = true := by simp
    go_wp2_with fail
    go_ret
    exact ⟨rfl, HB.out⟩
end Go.Proofs.Ytabjbpkojbdgaaa
