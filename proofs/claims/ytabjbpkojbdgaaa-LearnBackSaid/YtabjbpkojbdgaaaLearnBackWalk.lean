/- The walk of LearnBack: it returns true. (Printed by wip/tools/learnback.py.) -/
import Derived.Test.YtabjbpkojbdgaaaLearnKit
import Derived.Test.YtabjbpkojbdgaaaHeavy
import Derived.Test.YtabjbpkojbdgaaaTaughtTrue
import Derived.Test.YtabjbpkojbdgaaaFallsFn
import Derived.Test.YtabjbpkojbdgaaaLevelsFn
import Derived.Test.YtabjbpkojbdgaaaRefAsk
import Derived.Test.YtabjbpkojbdgaaaSnocG
namespace Go.Proofs.Ytabjbpkojbdgaaa
open Go.RowKit
set_option linter.unusedSimpArgs false

set_option maxHeartbeats 8000000 in
set_option maxRecDepth 100000 in
theorem learnBack_walk {vars : Int} {A B : Option Addr} {n c m d : Nat} {xss : List (List Int)} {l : List Int} (w : World) (hv : I64 vars) (h : Grid w A n c xss) (h' : Ints w B m d l) :
    Calls Try.prog 6 #[.agg #[.int .i64 vars, .slice A n c], .slice B m d] w fun e w' => e = .returned (.bool true) ∧ Below w.heap.size w w' := by
  have hbd := h.bd
  have G := Lib.hid h
  have I := Lib.hid h'
  have hn63 : n ≤ 9223372036854775807 := by omega
  obtain ⟨hvy, hhv⟩ : ∃ r, Hid ((decide (40 < vars) || decide (60 < (n : Int))) = r) := ⟨_, rfl⟩
  obtain ⟨r1, r2, hr⟩ : ∃ r1 r2, Hid (besideR vars xss l = (r1, r2)) := ⟨_, _, rfl⟩
  clear h h'
  cases hvy
  rotate_left
  · go_enter Try.func6, Try.ntmps6
    go_wp2_with fail
    refine (heavy_any _ _ _ _ _ hn63 _ hhv).mono ?_
    rintro e w1 ⟨rfl, hb1⟩
    obtain ⟨K_c0, B_w1, l_w1⟩ := blk1 hb1
    replace G := Lib.hid (G.out.keep B_w1)
    replace I := Lib.hid (I.out.keep B_w1)
    have HB := Lib.hid B_w1
    have K_c := Lib.hid K_c0
    clear hb1 B_w1 K_c0
    have cK_c_0 := K_c.out.cell 0
    have cK_c_1 := K_c.out.cell 1
    simp at cK_c_0 cK_c_1
    have zK_c := K_c.out.lt
    go_wp2_with fail
    go_ret
    exact ⟨rfl, HB.out⟩
  by_cases hr1 : r1 = 0
  · subst hr1
    obtain ⟨hr0, hc0, hll⟩ := besideR_ok (vars := vars) (xss := xss) (l := l) (by rw [hr.out])
    obtain rfl : r2 = 0 := by rw [hr.out] at hr0; simpa using hr0
    obtain ⟨hc00, v0, v1, hn400, hrows⟩ := checkC_ok hc0
    have v6 : vars ≤ 1000000 := by omega
    have v3 : vars ≤ 1000 := by omega
    have HC : Hid (∀ x ∈ xss, Lits vars x) := fun x hx => (hrows x hx).2
    have HLL := Lib.hid hll
    have HC0 := Lib.hid hc00
    have hn4 : n ≤ 400 := by have := G.out.len; omega
    obtain ⟨t, y, v, z, a, ha⟩ : ∃ t y v z a, Hid (startF vars xss l = (t, y, v, z, a)) := ⟨_, _, _, _, _, rfl⟩
    clear hr0 hc0 hrows hll hn400 hc00
    by_cases hneg : a < 0
    · go_enter Try.func6, Try.ntmps6
      go_wp2_with fail
      refine (heavy_any _ _ _ _ _ hn63 _ hhv).mono ?_
      rintro e w1 ⟨rfl, hb1⟩
      obtain ⟨K_c0, B_w1, l_w1⟩ := blk1 hb1
      replace G := Lib.hid (G.out.keep B_w1)
      replace I := Lib.hid (I.out.keep B_w1)
      have HB := Lib.hid B_w1
      have K_c := Lib.hid K_c0
      clear hb1 B_w1 K_c0
      have cK_c_0 := K_c.out.cell 0
      have cK_c_1 := K_c.out.cell 1
      simp at cK_c_0 cK_c_1
      have zK_c := K_c.out.lt
      go_wp2_with fail
      refine (learnClause_none _ _ _ _ _ _ xss l vars w1 G.out hv I.out hr t y v z a ha hneg).mono ?_
      rintro e w2 ⟨rfl, hb2⟩
      have B_w2 := hb2
      replace G := Lib.hid (G.out.keep B_w2)
      replace I := Lib.hid (I.out.keep B_w2)
      replace K_c := Lib.hid (K_c.out.keep B_w2)
      replace HB := Lib.hid (below_next HB.out B_w2)
      clear hb2 B_w2
      clear cK_c_0 cK_c_1 zK_c
      have cK_c_0 := K_c.out.cell 0
      have cK_c_1 := K_c.out.cell 1
      simp at cK_c_0 cK_c_1
      have zK_c := K_c.out.lt
      go_wp2_with fail
      refine (round_any _).mono ?_
      rintro e w4 ⟨A5, n5, c5, rfl, hG5, hb4⟩
      obtain ⟨K_x0, B_w4, l_w4⟩ := blk1 hb4
      replace G := Lib.hid (G.out.keep B_w4)
      replace I := Lib.hid (I.out.keep B_w4)
      replace K_c := Lib.hid (K_c.out.keep B_w4)
      replace HB := Lib.hid (below_next HB.out B_w4)
      have K_x := Lib.hid K_x0
      clear hb4 B_w4 K_x0
      clear cK_c_0 cK_c_1 zK_c
      have cK_c_0 := K_c.out.cell 0
      have cK_c_1 := K_c.out.cell 1
      simp at cK_c_0 cK_c_1
      have zK_c := K_c.out.lt
      have cK_x_0 := K_x.out.cell 0
      have cK_x_1 := K_x.out.cell 1
      simp at cK_x_0 cK_x_1
      have zK_x := K_x.out.lt
      have GP := Lib.hid hG5
      clear hG5
      go_wp2_with fail
      have hone := learnClause_own _ _ _ _ _ _ [[-1, 2], [-1, -2]] [1] 2 _ (GP.out.keep (below_new _ _)) ⟨by omega, by omega⟩ (ints_made _ 3 [1] rfl (by simp [I64]) (by decide)) (by show _ = _; decide) [1, 2] [-1, 0] [1, 1] 1 1 (by show _ = _; decide) (by omega)
      rw [show taughtF [[-1, 2], [-1, -2]] [1, 2] [-1, 0] [1, 1] 1 1 = [-1] by decide, show backF [1, 2] [1, 1] ((1 : Nat) : Int) [-1] 0 = 0 by decide] at hone
      refine hone.mono ?_
      clear hone
      rintro e w5 ⟨L5, nl5, cl5, rfl, hI5, hb5⟩
      obtain ⟨K_o0, B_w5, l_w5⟩ := blk1 hb5
      replace G := Lib.hid (G.out.keep B_w5)
      replace I := Lib.hid (I.out.keep B_w5)
      replace GP := Lib.hid (GP.out.keep B_w5)
      replace K_c := Lib.hid (K_c.out.keep B_w5)
      replace K_x := Lib.hid (K_x.out.keep B_w5)
      replace HB := Lib.hid (below_next HB.out B_w5)
      have K_o := Lib.hid K_o0
      clear hb5 B_w5 K_o0
      clear cK_c_0 cK_c_1 zK_c cK_x_0 cK_x_1 zK_x
      have cK_c_0 := K_c.out.cell 0
      have cK_c_1 := K_c.out.cell 1
      simp at cK_c_0 cK_c_1
      have zK_c := K_c.out.lt
      have cK_x_0 := K_x.out.cell 0
      have cK_x_1 := K_x.out.cell 1
      simp at cK_x_0 cK_x_1
      have zK_x := K_x.out.lt
      have cK_o_0 := K_o.out.cell 0
      simp at cK_o_0
      have zK_o := K_o.out.lt
      have IO := Lib.hid hI5
      clear hI5
      go_wp2_with fail
      refine (same_any _ _ _ _ _ _ [-1] [-1] _ (IO.out.keep (below_alloc (below_new _ _) _)) (ints_made _ 3 [-1] (by simp) (by simp [I64]) (by decide)) true (by show _ = _; rfl)).mono ?_
      rintro e w6 hq6
      obtain ⟨rfl, hb6⟩ := hq6.v
      clear hq6
      obtain ⟨K_g0, K_m0, B_w6, l_w6⟩ := two_blks hb6
      replace G := Lib.hid (G.out.keep B_w6)
      replace I := Lib.hid (I.out.keep B_w6)
      replace GP := Lib.hid (GP.out.keep B_w6)
      replace IO := Lib.hid (IO.out.keep B_w6)
      replace K_c := Lib.hid (K_c.out.keep B_w6)
      replace K_x := Lib.hid (K_x.out.keep B_w6)
      replace K_o := Lib.hid (K_o.out.keep B_w6)
      replace HB := Lib.hid (below_next HB.out B_w6)
      have K_g := Lib.hid K_g0
      have K_m := Lib.hid K_m0
      clear hb6 B_w6 K_g0 K_m0
      clear cK_c_0 cK_c_1 zK_c cK_x_0 cK_x_1 zK_x cK_o_0 zK_o
      have cK_c_0 := K_c.out.cell 0
      have cK_c_1 := K_c.out.cell 1
      simp at cK_c_0 cK_c_1
      have zK_c := K_c.out.lt
      have cK_x_0 := K_x.out.cell 0
      have cK_x_1 := K_x.out.cell 1
      simp at cK_x_0 cK_x_1
      have zK_x := K_x.out.lt
      have cK_o_0 := K_o.out.cell 0
      simp at cK_o_0
      have zK_o := K_o.out.lt
      have cK_g_0 := K_g.out.cell 0
      have cK_g_1 := K_g.out.cell 1
      simp at cK_g_0 cK_g_1
      have zK_g := K_g.out.lt
      have cK_m_0 := K_m.out.cell 0
      simp at cK_m_0
      have zK_m := K_m.out.lt
      go_wp2_with fail
      go_ret
      exact ⟨rfl, HB.out⟩
    · go_enter Try.func6, Try.ntmps6
      go_wp2_with fail
      refine (heavy_any _ _ _ _ _ hn63 _ hhv).mono ?_
      rintro e w1 ⟨rfl, hb1⟩
      obtain ⟨K_c0, B_w1, l_w1⟩ := blk1 hb1
      replace G := Lib.hid (G.out.keep B_w1)
      replace I := Lib.hid (I.out.keep B_w1)
      have HB := Lib.hid B_w1
      have K_c := Lib.hid K_c0
      clear hb1 B_w1 K_c0
      have cK_c_0 := K_c.out.cell 0
      have cK_c_1 := K_c.out.cell 1
      simp at cK_c_0 cK_c_1
      have zK_c := K_c.out.lt
      have HTd : Hid (Told vars xss t y v z a) := by have := startF_told (q := l) v0 HC.out HLL.out.1; rw [ha.out] at this; exact this
      have HZ : Hid (z ≤ 1000000) := by have h1 := startF_z v0 HC.out HLL.out ha.out; have h2 := HLL.out.len_le v0; show _ ≤ _; omega
      have hpos : 0 ≤ a := by omega
      have dneg : decide (a < 0) = false := decide_eq_false (by omega)
      obtain ⟨R, hR⟩ : ∃ R, Hid (taughtF xss t y v z a = R) := ⟨_, rfl⟩
      obtain ⟨bk, hbk⟩ : ∃ bk, Hid (backF t v z R 0 = bk) := ⟨_, rfl⟩
      go_wp2_with fail
      have hown := learnClause_own _ _ _ _ _ _ xss l vars w1 G.out hv I.out hr t y v z a ha hpos
      rw [hR.out, hbk.out] at hown
      refine hown.mono ?_
      clear hown
      rintro e w2 ⟨L2, nl2, cl2, rfl, hI2, hb2⟩
      have B_w2 := hb2
      replace G := Lib.hid (G.out.keep B_w2)
      replace I := Lib.hid (I.out.keep B_w2)
      replace K_c := Lib.hid (K_c.out.keep B_w2)
      replace HB := Lib.hid (below_next HB.out B_w2)
      clear hb2 B_w2
      clear cK_c_0 cK_c_1 zK_c
      have cK_c_0 := K_c.out.cell 0
      have cK_c_1 := K_c.out.cell 1
      simp at cK_c_0 cK_c_1
      have zK_c := K_c.out.lt
      have IL := Lib.hid hI2
      clear hI2
      go_wp2_with fail
      refine (round_any _).mono ?_
      rintro e w4 ⟨A5, n5, c5, rfl, hG5, hb4⟩
      obtain ⟨K_x0, B_w4, l_w4⟩ := blk1 hb4
      replace G := Lib.hid (G.out.keep B_w4)
      replace I := Lib.hid (I.out.keep B_w4)
      replace IL := Lib.hid (IL.out.keep B_w4)
      replace K_c := Lib.hid (K_c.out.keep B_w4)
      replace HB := Lib.hid (below_next HB.out B_w4)
      have K_x := Lib.hid K_x0
      clear hb4 B_w4 K_x0
      clear cK_c_0 cK_c_1 zK_c
      have cK_c_0 := K_c.out.cell 0
      have cK_c_1 := K_c.out.cell 1
      simp at cK_c_0 cK_c_1
      have zK_c := K_c.out.lt
      have cK_x_0 := K_x.out.cell 0
      have cK_x_1 := K_x.out.cell 1
      simp at cK_x_0 cK_x_1
      have zK_x := K_x.out.lt
      have GP := Lib.hid hG5
      clear hG5
      go_wp2_with fail
      have hone := learnClause_own _ _ _ _ _ _ [[-1, 2], [-1, -2]] [1] 2 _ (GP.out.keep (below_new _ _)) ⟨by omega, by omega⟩ (ints_made _ 3 [1] rfl (by simp [I64]) (by decide)) (by show _ = _; decide) [1, 2] [-1, 0] [1, 1] 1 1 (by show _ = _; decide) (by omega)
      rw [show taughtF [[-1, 2], [-1, -2]] [1, 2] [-1, 0] [1, 1] 1 1 = [-1] by decide, show backF [1, 2] [1, 1] ((1 : Nat) : Int) [-1] 0 = 0 by decide] at hone
      refine hone.mono ?_
      clear hone
      rintro e w5 ⟨L5, nl5, cl5, rfl, hI5, hb5⟩
      obtain ⟨K_o0, B_w5, l_w5⟩ := blk1 hb5
      replace G := Lib.hid (G.out.keep B_w5)
      replace I := Lib.hid (I.out.keep B_w5)
      replace IL := Lib.hid (IL.out.keep B_w5)
      replace GP := Lib.hid (GP.out.keep B_w5)
      replace K_c := Lib.hid (K_c.out.keep B_w5)
      replace K_x := Lib.hid (K_x.out.keep B_w5)
      replace HB := Lib.hid (below_next HB.out B_w5)
      have K_o := Lib.hid K_o0
      clear hb5 B_w5 K_o0
      clear cK_c_0 cK_c_1 zK_c cK_x_0 cK_x_1 zK_x
      have cK_c_0 := K_c.out.cell 0
      have cK_c_1 := K_c.out.cell 1
      simp at cK_c_0 cK_c_1
      have zK_c := K_c.out.lt
      have cK_x_0 := K_x.out.cell 0
      have cK_x_1 := K_x.out.cell 1
      simp at cK_x_0 cK_x_1
      have zK_x := K_x.out.lt
      have cK_o_0 := K_o.out.cell 0
      simp at cK_o_0
      have zK_o := K_o.out.lt
      have IO := Lib.hid hI5
      clear hI5
      go_wp2_with fail
      refine (same_any _ _ _ _ _ _ [-1] [-1] _ (IO.out.keep (below_alloc (below_new _ _) _)) (ints_made _ 3 [-1] (by simp) (by simp [I64]) (by decide)) true (by show _ = _; rfl)).mono ?_
      rintro e w6 hq6
      obtain ⟨rfl, hb6⟩ := hq6.v
      clear hq6
      obtain ⟨K_g0, K_m0, B_w6, l_w6⟩ := two_blks hb6
      replace G := Lib.hid (G.out.keep B_w6)
      replace I := Lib.hid (I.out.keep B_w6)
      replace IL := Lib.hid (IL.out.keep B_w6)
      replace GP := Lib.hid (GP.out.keep B_w6)
      replace IO := Lib.hid (IO.out.keep B_w6)
      replace K_c := Lib.hid (K_c.out.keep B_w6)
      replace K_x := Lib.hid (K_x.out.keep B_w6)
      replace K_o := Lib.hid (K_o.out.keep B_w6)
      replace HB := Lib.hid (below_next HB.out B_w6)
      have K_g := Lib.hid K_g0
      have K_m := Lib.hid K_m0
      clear hb6 B_w6 K_g0 K_m0
      clear cK_c_0 cK_c_1 zK_c cK_x_0 cK_x_1 zK_x cK_o_0 zK_o
      have cK_c_0 := K_c.out.cell 0
      have cK_c_1 := K_c.out.cell 1
      simp at cK_c_0 cK_c_1
      have zK_c := K_c.out.lt
      have cK_x_0 := K_x.out.cell 0
      have cK_x_1 := K_x.out.cell 1
      simp at cK_x_0 cK_x_1
      have zK_x := K_x.out.lt
      have cK_o_0 := K_o.out.cell 0
      simp at cK_o_0
      have zK_o := K_o.out.lt
      have cK_g_0 := K_g.out.cell 0
      have cK_g_1 := K_g.out.cell 1
      simp at cK_g_0 cK_g_1
      have zK_g := K_g.out.lt
      have cK_m_0 := K_m.out.cell 0
      simp at cK_m_0
      have zK_m := K_m.out.lt
      go_wp2_with fail
      refine (levels_own _ _ _ _ _ _ xss l vars _ G.out hv I.out hr t y v z a ha).mono ?_
      rintro e w7 ⟨L7, nl7, cl7, V7, nv7, cv7, rfl, hI7, hV7, hb7⟩
      have B_w7 := hb7
      replace G := Lib.hid (G.out.keep B_w7)
      replace I := Lib.hid (I.out.keep B_w7)
      replace IL := Lib.hid (IL.out.keep B_w7)
      replace GP := Lib.hid (GP.out.keep B_w7)
      replace IO := Lib.hid (IO.out.keep B_w7)
      replace K_c := Lib.hid (K_c.out.keep B_w7)
      replace K_x := Lib.hid (K_x.out.keep B_w7)
      replace K_o := Lib.hid (K_o.out.keep B_w7)
      replace K_g := Lib.hid (K_g.out.keep B_w7)
      replace K_m := Lib.hid (K_m.out.keep B_w7)
      replace HB := Lib.hid (below_next HB.out B_w7)
      clear hb7 B_w7
      clear cK_c_0 cK_c_1 zK_c cK_x_0 cK_x_1 zK_x cK_o_0 zK_o cK_g_0 cK_g_1 zK_g cK_m_0 zK_m
      have cK_c_0 := K_c.out.cell 0
      have cK_c_1 := K_c.out.cell 1
      simp at cK_c_0 cK_c_1
      have zK_c := K_c.out.lt
      have cK_x_0 := K_x.out.cell 0
      have cK_x_1 := K_x.out.cell 1
      simp at cK_x_0 cK_x_1
      have zK_x := K_x.out.lt
      have cK_o_0 := K_o.out.cell 0
      simp at cK_o_0
      have zK_o := K_o.out.lt
      have cK_g_0 := K_g.out.cell 0
      have cK_g_1 := K_g.out.cell 1
      simp at cK_g_0 cK_g_1
      have zK_g := K_g.out.lt
      have cK_m_0 := K_m.out.cell 0
      simp at cK_m_0
      have zK_m := K_m.out.lt
      have IT := Lib.hid hI7
      have IV := Lib.hid hV7
      clear hI7 hV7
      obtain rfl : nl7 = nv7 := by rw [← IV.out.len, ← IT.out.len, HTd.out.lev.len, HTd.out.hist.1]
      have dvt2 : ((nl7 : Int) != (nl7 : Int)) = false := by simp
      go_wp2_with fail
      have HRL0 : Hid (Lits vars R) := by rw [← hR.out]; exact taught_lits HTd.out HC.out hpos
      refine (wrong_any _ _ _ R vars _ (IL.out.keep (below_new _ _)) v0 v6 0 0 (lits_iff.1 HRL0.out)).mono ?_
      rintro e w8 hq8
      obtain ⟨rfl, hb8⟩ := hq8.v
      clear hq8
      obtain ⟨K_h0, B_w8, l_w8⟩ := blk1 hb8
      replace G := Lib.hid (G.out.keep B_w8)
      replace I := Lib.hid (I.out.keep B_w8)
      replace IL := Lib.hid (IL.out.keep B_w8)
      replace GP := Lib.hid (GP.out.keep B_w8)
      replace IO := Lib.hid (IO.out.keep B_w8)
      replace IT := Lib.hid (IT.out.keep B_w8)
      replace IV := Lib.hid (IV.out.keep B_w8)
      replace K_c := Lib.hid (K_c.out.keep B_w8)
      replace K_x := Lib.hid (K_x.out.keep B_w8)
      replace K_o := Lib.hid (K_o.out.keep B_w8)
      replace K_g := Lib.hid (K_g.out.keep B_w8)
      replace K_m := Lib.hid (K_m.out.keep B_w8)
      replace HB := Lib.hid (below_next HB.out B_w8)
      have K_h := Lib.hid K_h0
      clear hb8 B_w8 K_h0
      clear cK_c_0 cK_c_1 zK_c cK_x_0 cK_x_1 zK_x cK_o_0 zK_o cK_g_0 cK_g_1 zK_g cK_m_0 zK_m
      have cK_c_0 := K_c.out.cell 0
      have cK_c_1 := K_c.out.cell 1
      simp at cK_c_0 cK_c_1
      have zK_c := K_c.out.lt
      have cK_x_0 := K_x.out.cell 0
      have cK_x_1 := K_x.out.cell 1
      simp at cK_x_0 cK_x_1
      have zK_x := K_x.out.lt
      have cK_o_0 := K_o.out.cell 0
      simp at cK_o_0
      have zK_o := K_o.out.lt
      have cK_g_0 := K_g.out.cell 0
      have cK_g_1 := K_g.out.cell 1
      simp at cK_g_0 cK_g_1
      have zK_g := K_g.out.lt
      have cK_m_0 := K_m.out.cell 0
      simp at cK_m_0
      have zK_m := K_m.out.lt
      have cK_h_0 := K_h.out.cell 0
      have cK_h_1 := K_h.out.cell 1
      simp at cK_h_0 cK_h_1
      have zK_h := K_h.out.lt
      go_wp2_with fail
      refine (propFalls_own _ _ _ _ _ _ xss R vars _ G.out hv IL.out (besideR_of HC0.out HRL0.out) true (by have := taught_falls v0 HTd.out HC.out hpos; rw [hR.out] at this; exact this)).mono ?_
      rintro e w9 ⟨rfl, hb9⟩
      have B_w9 := hb9
      replace G := Lib.hid (G.out.keep B_w9)
      replace I := Lib.hid (I.out.keep B_w9)
      replace IL := Lib.hid (IL.out.keep B_w9)
      replace GP := Lib.hid (GP.out.keep B_w9)
      replace IO := Lib.hid (IO.out.keep B_w9)
      replace IT := Lib.hid (IT.out.keep B_w9)
      replace IV := Lib.hid (IV.out.keep B_w9)
      replace K_c := Lib.hid (K_c.out.keep B_w9)
      replace K_x := Lib.hid (K_x.out.keep B_w9)
      replace K_o := Lib.hid (K_o.out.keep B_w9)
      replace K_g := Lib.hid (K_g.out.keep B_w9)
      replace K_m := Lib.hid (K_m.out.keep B_w9)
      replace K_h := Lib.hid (K_h.out.keep B_w9)
      replace HB := Lib.hid (below_next HB.out B_w9)
      clear hb9 B_w9
      clear cK_c_0 cK_c_1 zK_c cK_x_0 cK_x_1 zK_x cK_o_0 zK_o cK_g_0 cK_g_1 zK_g cK_m_0 zK_m cK_h_0 cK_h_1 zK_h
      have cK_c_0 := K_c.out.cell 0
      have cK_c_1 := K_c.out.cell 1
      simp at cK_c_0 cK_c_1
      have zK_c := K_c.out.lt
      have cK_x_0 := K_x.out.cell 0
      have cK_x_1 := K_x.out.cell 1
      simp at cK_x_0 cK_x_1
      have zK_x := K_x.out.lt
      have cK_o_0 := K_o.out.cell 0
      simp at cK_o_0
      have zK_o := K_o.out.lt
      have cK_g_0 := K_g.out.cell 0
      have cK_g_1 := K_g.out.cell 1
      simp at cK_g_0 cK_g_1
      have zK_g := K_g.out.lt
      have cK_m_0 := K_m.out.cell 0
      simp at cK_m_0
      have zK_m := K_m.out.lt
      have cK_h_0 := K_h.out.cell 0
      have cK_h_1 := K_h.out.cell 1
      simp at cK_h_0 cK_h_1
      have zK_h := K_h.out.lt
      obtain ⟨w10, hw10⟩ : ∃ w10 : World, w10 = w9.alloc (.cells #[.int .i64 0, .int .i64 0] 28) := ⟨_, rfl⟩
      have b910 : Below w9.heap.size w9 w10 := by rw [hw10]; exact below_new _ _
      replace G := Lib.hid (G.out.keep b910)
      replace I := Lib.hid (I.out.keep b910)
      replace IL := Lib.hid (IL.out.keep b910)
      replace GP := Lib.hid (GP.out.keep b910)
      replace IO := Lib.hid (IO.out.keep b910)
      replace IT := Lib.hid (IT.out.keep b910)
      replace IV := Lib.hid (IV.out.keep b910)
      replace K_c := Lib.hid (K_c.out.keep b910)
      replace HB := Lib.hid (below_next HB.out b910)
      by_cases hRe : nl2 = 0
      · go_wp2_with fail
        go_ret
        rw [← hw10]
        exact ⟨rfl, HB.out⟩
      have hRne : R ≠ [] := fun e => hRe (by rw [← IL.out.len, e]; rfl)
      have hmb : m ≤ 1000000 := by have h1 := HLL.out.len_le v0; have h2 := I.out.len; omega
      have HLB : Hid (∀ x ∈ l, -1000000 ≤ x ∧ x ≤ 1000000) := fun x hx => by have := HLL.out.1 x hx; omega
      have hbkb : -9223372036854775808 ≤ bk ∧ bk ≤ 9223372036854775807 := by
        obtain ⟨g1, g2, g3⟩ := backF_spec t v z R 0
        rw [hbk.out] at g1 g3
        rcases g3 with g3 | ⟨x, hx, hxz, g3⟩
        · omega
        · have := HZ.out; omega
      obtain ⟨i0, hi0, hz0, hz1, hz2⟩ := info_parts int_info
      have dnl : ((nl2 : Int) == 0) = false := by rw [beq_eq_false_iff_ne]; omega
      go_wp2_with fail
      rw [← hw10]
      clear hw10 b910
      have hFL : Hid ([] ++ firstF t v bk (l.drop 0) = firstF t v bk l) := by simp [Hid]
      go_loopw [19, 20] (fun s19 s20 wr => ∃ (k : Nat) (A9 : Option Addr) (n9 c9 : Nat) (nn : List Int), k ≤ m ∧ n9 ≤ k ∧ s19 = .slice A9 n9 c9 ∧ s20 = .int .i64 k ∧ Hid (Own 3 wr w10.heap.size A9 n9 c9 (nn.map (Value.int .i64))) ∧ Hid (∀ x ∈ nn, -1000000 ≤ x ∧ x ≤ 1000000) ∧ Hid (nn ++ firstF t v bk (l.drop k) = firstF t v bk l) ∧ Hid (Below w10.heap.size w10 wr)) (fun _ i _ => m - (intOf i).toNat)
      case atStart => exact ⟨0, none, 0, 0, [], Nat.zero_le _, Nat.le_refl _, rfl, rfl, Own.nil _ _ _, by simp [Hid], hFL, Below.refl _ _⟩
      case round =>
        clear hFL cK_c_0 cK_c_1 zK_c cK_x_0 cK_x_1 zK_x cK_o_0 zK_o cK_g_0 cK_g_1 zK_g cK_m_0 zK_m cK_h_0 cK_h_1 zK_h
        obtain ⟨k, A9, n9, c9, nn, hk, hn9, rfl, rfl, HO, hN, hfl, hB⟩ := hrel
        by_cases hkm : k < m
        · have IR := Lib.hid (I.out.keep hB.out)
          have ITR := Lib.hid (IT.out.keep hB.out)
          have IVR := Lib.hid (IV.out.keep hB.out)
          obtain ⟨b1, off1, x, hAe, hbb, hcell1, x1, x2, hxk⟩ := IR.out.round hkm
          have hxb := HLB.out x (List.mem_of_getElem? hxk.out)
          obtain ⟨p, hp⟩ : ∃ p, Hid (idxF (fun y => y == x) t 0 = p) := ⟨_, rfl⟩
          have hst : Hid (nn ++ (if (decide (0 ≤ p) && decide (v.getD p.toNat 0 ≤ bk)) = true then x :: firstF t v bk (l.drop (k + 1)) else firstF t v bk (l.drop (k + 1))) = firstF t v bk l) := by
            have := hfl.out
            rw [drop_cons_of hxk.out, firstF, List.filter_cons, hp.out] at this
            exact this
          have HBE : Hid (B = some ⟨b1, off1, none⟩) := hAe
          subst hAe
          clear hfl hxk
          go_wp2_with fail
          refine (place_ref _ _ _ t x _ ITR.out p hp).mono ?_
          rintro e w11 ⟨rfl, m11, rfl⟩
          obtain ⟨wq, hwq⟩ : ∃ wq : World, wq = wr.drewN m11 := ⟨_, rfl⟩
          have hbq : Below wr.heap.size wr wq := by rw [hwq]; exact below_drewN _ _
          (try rw [← hwq])
          replace HO := Lib.hid (HO.out.keep hbq)
          replace hB := Lib.hid (below_next hB.out hbq)
          have hcellq := keepBox hbq hcell1
          have zq := (cell_lt hcellq).1
          have hqz := hB.out.size
          replace IVR := Lib.hid (IVR.out.keep hbq)
          clear hwq hbq hcell1 hbb IR ITR
          by_cases hp0 : p < 0
          · have hst2 : Hid (nn ++ firstF t v bk (l.drop (k + 1)) = firstF t v bk l) := by
              have := hst.out
              rw [if_neg (by simp; omega)] at this
              exact this
            clear hst
            go_wp2_with fail
            go_roundw
            case rel => exact ⟨k + 1, A9, n9, c9, nn, by omega, by omega, rfl, by go_num, HO, hN, hst2, hB⟩
            case measure => simp [intOf] <;> omega
          · obtain ⟨P, rfl⟩ : ∃ P : Nat, p = (P : Int) := ⟨p.toNat, by omega⟩
            have hPt : P < t.length := by
              rcases idxF_lt (fun y => y == x) t 0 with g | ⟨g1, g2, _⟩
              · have := hp.out; omega
              · have := hp.out; omega
            have hPv : P < nl7 := by rw [← IVR.out.len, HTd.out.lev.len, HTd.out.hist.1]; exact hPt
            obtain ⟨b4, off4, lv, hVe, hb4, hcell4, lv1, lv2, hlk⟩ := IVR.out.round hPv
            have hst1 : Hid (nn ++ (if lv ≤ bk then x :: firstF t v bk (l.drop (k + 1)) else firstF t v bk (l.drop (k + 1))) = firstF t v bk l) := by
              have := hst.out
              rw [Int.toNat_natCast, List.getD_eq_getElem?_getD, hlk.out] at this
              simpa [Hid] using this
            have HVE : Hid (V7 = some ⟨b4, off4, none⟩) := hVe
            subst hVe
            have u1 : (0 : Int) ≤ (P : Int) := by omega
            have u2 : (P : Int) < (nl7 : Int) := by omega
            have u3 : (0 : Int) ≤ (k : Int) := by omega
            have u4 : (k : Int) < (m : Int) := by omega
            clear hst hlk hb4
            by_cases hle : lv ≤ bk
            · have hst2 : Hid (nn ++ x :: firstF t v bk (l.drop (k + 1)) = firstF t v bk l) := by have := hst1.out; rw [if_pos hle] at this; exact this
              clear hst1
              have hS := ints_made wq 3 [x] rfl (by simp [I64]; omega) (by simp [maxLen])
              go_wp2_with (first
                | (at_builtin
                   refine wpList_append_sl _ rfl (.tmp 130) (.tmp 135) _ rfl w10.heap.size 3 i0 _ 8 Try.underlying25 hi0 hz0 hz1 hz2 rfl A9 n9 c9 _ rfl (HO.out.keep (below_new _ _)) (some ⟨wq.heap.size, 0, none⟩) 1 1 _ rfl hS.sl (ints_one _) (by simp only [maxLen]; omega) (by omega) (by simp; omega) ?_
                   intro L1 cL1 wL hL1 hg1 hat1
                   have HL1 := Lib.hid hL1
                   have HB9 : Hid (Below w10.heap.size w10 wL) := below_grown (below_alloc hB.out (.cells #[.int .i64 x] 3)) (HO.out.keep (below_new wq (.cells #[.int .i64 x] 3))) (Nat.le_refl _) hg1
                   clear hL1 hg1 hat1))
              go_roundw
              case rel =>
                refine ⟨k + 1, L1, n9 + 1, cL1, nn ++ [x], by omega, by omega, rfl, by go_num, by rw [Hid, List.map_append]; exact HL1.out, ?_, by have := hst2.out; simpa [Hid] using this, HB9⟩
                intro q hq
                rcases List.mem_append.1 hq with hq | hq
                · exact hN.out q hq
                · simp at hq; subst hq; exact hxb
              case measure => simp [intOf] <;> omega
            · have hst2 : Hid (nn ++ firstF t v bk (l.drop (k + 1)) = firstF t v bk l) := by have := hst1.out; rw [if_neg hle] at this; exact this
              clear hst1
              go_wp2_with fail
              go_roundw
              case rel => exact ⟨k + 1, A9, n9, c9, nn, by omega, by omega, rfl, by go_num, HO, hN, hst2, hB⟩
              case measure => simp [intOf] <;> omega
        · have hfin : nn = firstF t v bk l := by
            have := hfl.out
            rw [List.drop_of_length_le (by rw [I.out.len]; omega)] at this
            simpa [firstF] using this
          subst hfin
          clear hfl
          have HFL : Hid (Lits vars (firstF t v bk l)) := ⟨fun x hx => HLL.out.1 x (List.mem_filter.1 hx).1, HLL.out.2.sublist List.filter_sublist⟩
          have HFI : Hid (Ints wr A9 n9 c9 (firstF t v bk l)) := HO.out.ints (fun x hx => by have := hN.out x hx; unfold I64; omega)
          have KC := Lib.hid (K_c.out.keep hB.out)
          have e0 := KC.out.cell 0
          have e1 := KC.out.cell 1
          simp at e0 e1
          have ze := KC.out.lt
          have GR := Lib.hid (G.out.keep hB.out)
          have ILR := Lib.hid (IL.out.keep hB.out)
          have HBW := Lib.hid (below_next HB.out hB.out)
          obtain ⟨vs, hsl, hvl, hvr⟩ := GR.out.ex
          have HSL := Lib.hid hsl
          have HRL : Hid (RowsL wr vs xss) := ⟨hvl, hvr⟩
          have hvn : vs.length = n := hsl.len
          obtain ⟨j0, hj0, hy0, hy1, hy2⟩ := info_parts row_info
          have hcn : c ≤ maxLen := hsl.cap
          clear hsl hvl hvr HO hN
          obtain ⟨wa, hwa⟩ : ∃ wa : World, wa = wr.alloc (.cells #[] 25) := ⟨_, rfl⟩
          have hba : Below wr.heap.size wr wa := by rw [hwa]; exact below_new _ _
          have OA : Hid (Own 25 wa wr.heap.size (some ⟨wr.heap.size, 0, none⟩) 0 0 []) := by rw [hwa]; exact own_empty _ _ _ rfl (Nat.le_refl _)
          have HSA := Lib.hid (HSL.out.keep hba)
          have HWA := Lib.hid hwa
          have HBA := Lib.hid hba
          clear hba hwa
          have HR1 : Hid (Lits vars R) := by rw [← hR.out]; exact taught_lits HTd.out HC.out hpos
          have HC2 : Hid (∀ x ∈ xss ++ [R], Lits vars x) := fun x hx => by
            rcases List.mem_append.1 hx with hx | hx
            · exact HC.out x hx
            · simp at hx; subst hx; exact HR1.out
          obtain ⟨t2, y2, a2, hask⟩ : ∃ t2 y2 a2, Hid (askF vars (xss ++ [R]) (firstF t v bk l) = (t2, y2, a2)) := ⟨_, _, _, rfl⟩
          go_wp2_with (first
            | (at_builtin
               refine wpList_append_sl _ rfl (.tmp 137) (.tmp 139) _ rfl wr.heap.size 25 j0 _ 24 Try.underlying22 hj0 hy0 hy1 hy2 rfl (some ⟨wr.heap.size, 0, none⟩) 0 0 _ rfl (by rw [← HWA.out]; exact OA.out) A n c vs rfl (by rw [← HWA.out]; exact HSA.out) (rowsL_one HRL.out) (by simp only [maxLen] at *; omega) (by omega) (by simp) ?_
               intro R1 cR1 wb hO1 hg1 hat1
               rw [← HWA.out] at hg1
               have O1 : Hid (Own 25 wb wr.heap.size R1 n cR1 vs) := by simpa [Hid] using hO1
               have B1 : Hid (Below wr.heap.size wr wb) := HBA.out.grown hg1 HBA.out.size (fun k' hk' => own_base OA.out hk')
               have f0 := keepBox B1.out e0
               have f1 := keepBox B1.out e1
               have zf := (cell_lt f0).1
               obtain ⟨wc, hwc⟩ : ∃ wc : World, wc = wb.alloc (.cells #[.slice L2 nl2 cl2] 25) := ⟨_, rfl⟩
               have hbc : Below wb.heap.size wb wc := by rw [hwc]; exact below_new _ _
               have OC := Lib.hid (O1.out.keep hbc)
               have SC : Hid (Sl wc (some ⟨wb.heap.size, 0, none⟩) 1 1 [.slice L2 nl2 cl2]) := by rw [hwc]; exact sl_one wb 25 (.slice L2 nl2 cl2) rfl
               have HWC := Lib.hid hwc
               have HBC := Lib.hid (below_next B1.out hbc)
               have hzc := HBC.out.size
               clear hO1 hg1 hat1 hbc hwc)
            | (at_builtin
               refine wpList_append_sl _ rfl (.tmp 140) (.tmp 142) _ rfl wr.heap.size 25 j0 _ 24 Try.underlying22 hj0 hy0 hy1 hy2 rfl R1 n cR1 _ rfl (by rw [← HWC.out]; exact OC.out) (some ⟨wb.heap.size, 0, none⟩) 1 1 [.slice L2 nl2 cl2] rfl (by rw [← HWC.out]; exact SC.out) (by simp [Value.oneCell']) (by simp only [maxLen] at *; omega) (by omega) (by rw [← HWC.out]; exact hzc) ?_
               intro R2 cR2 wf hO2 hg2 hat2
               rw [← HWC.out] at hg2
               have O2 := Lib.hid hO2
               have B2 : Hid (Below wr.heap.size wr wf) := HBC.out.grown hg2 HBC.out.size (fun k' hk' => own_base OC.out hk')
               have GF := Lib.hid (fin_grid ILR.out B2.out HRL.out O2.out)
               have FF := Lib.hid (HFI.out.keep B2.out)
               clear hO2 hg2 hat2))
          refine (asked_ref 0 _ _ _ _ _ _ (xss ++ [R]) (firstF t v bk l) vars _ GF.out FF.out v0 v6 HC2.out HFL.out (Nat.zero_le _) t2 y2 a2 hask).mono ?_
          rintro e wg ⟨L4, nl4, cl4, Y4, ny4, cy4, rfl, hI4, hJ4, _, _, _, _, hb4⟩
          have BG := Lib.hid (below_next B2.out hb4)
          have IT2 := Lib.hid hI4
          have IL2 := Lib.hid (ILR.out.keep BG.out)
          have BGW := Lib.hid (below_next HBW.out BG.out)
          clear hI4 hJ4 hb4 f0 f1 zf e0 e1 ze O1 B1 OC SC HWC HBC hzc O2 B2 GF FF HSA OA HWA HBA
          by_cases hpos2 : 0 ≤ a2
          · go_wp2_with fail
            go_ret
            exact ⟨rfl, below_next BGW.out (below_new _ _)⟩
          obtain ⟨F, H, hFc, hHc, hFR, hH1⟩ : ∃ F H : Nat, Hid ((R.filter (fun x => hasB t2 (-x))).length = F) ∧ Hid ((R.filter (fun x => hasB t2 x)).length = H) ∧ F + 1 = nl2 ∧ H = 1 := by
            have ok := ask_ok v0 HC2.out HFL.out hask.out
            obtain ⟨uu, hu⟩ := ok.ext
            have hbe : backF t v z (taughtF xss t y v z a) 0 = bk := by rw [hR.out]; exact hbk.out
            have hkey := taught_back (s := t2) ha.out HTd.out HC.out hpos (by rw [hR.out]; exact hRne) ok.lits (fun x hx => by rw [hbe] at hx; rw [hu]; exact List.mem_append_left _ hx) (by rw [hR.out]; exact ok.shut (by omega))
            rw [hR.out] at hkey
            obtain ⟨u, u1, u2, u3, u4⟩ := hkey
            obtain ⟨k1, k2⟩ := back_counts HR1.out.nodup u1 u2 u3 u4
            refine ⟨_, _, rfl, rfl, ?_, k2⟩
            rw [k1]
            exact IL.out.len
          subst hH1
          have HLB2 : Hid (∀ x ∈ R, -1000000 ≤ x ∧ x ≤ 1000000) := fun x hx => by have := HR1.out.1 x hx; omega
          have hnl2 : nl2 ≤ 1000000 := by have h1 := HR1.out.len_le v0; have h2 := IL.out.len; omega
          obtain ⟨wh, hwh⟩ : ∃ wh : World, wh = wg.alloc (.cells #[.slice L4 nl4 cl4, .slice Y4 ny4 cy4, .int .i64 a2] 35) := ⟨_, rfl⟩
          have hbh : Below wg.heap.size wg wh := by rw [hwh]; exact below_new _ _
          have KT : Hid (Blk wh wg.heap.size 35 #[.slice L4 nl4 cl4, .slice Y4 ny4 cy4, .int .i64 a2]) := by rw [hwh]; exact Blk.new _ _ _
          have IT3 := Lib.hid (IT2.out.keep hbh)
          have IL3 := Lib.hid (IL2.out.keep hbh)
          have BHW := Lib.hid (below_next BGW.out hbh)
          go_wp2_with fail
          rw [← hwh]
          clear hbh hwh IT2 IL2 BGW
          obtain ⟨bt, hbt⟩ : ∃ bt, bt = wg.heap.size := ⟨_, rfl⟩
          rw [← hbt] at KT ⊢
          clear hbt
          go_loopw [23, 24, 25] (fun s23 s24 s25 wz => ∃ (k f h' : Nat), k ≤ nl2 ∧ f ≤ k ∧ h' ≤ k ∧ s23 = .int .i64 f ∧ s24 = .int .i64 h' ∧ s25 = .int .i64 k ∧ Hid (Below wh.heap.size wh wz) ∧ Hid (f + ((R.drop k).filter (fun x => hasB t2 (-x))).length = F) ∧ Hid (h' + ((R.drop k).filter (fun x => hasB t2 x)).length = 1)) (fun _ _ i _ => nl2 - (intOf i).toNat)
          case atStart => exact ⟨0, 0, 0, Nat.zero_le _, Nat.le_refl _, Nat.le_refl _, rfl, rfl, rfl, Below.refl _ _, by simpa [Hid] using hFc.out, by simpa [Hid] using hHc.out⟩
          case round =>
            clear hFc hHc
            obtain ⟨k, f, h', hk, hf, hh, rfl, rfl, rfl, hBz, hFc, hHc⟩ := hrel
            by_cases hkn : k < nl2
            · have KTR := Lib.hid (KT.out.keep hBz.out)
              have q0 := KTR.out.cell 0
              simp at q0
              have zt := KTR.out.lt
              obtain ⟨b5, off5, x, hAe5, hbb5, hcell5, x51, x52, hxk5⟩ := (IL3.out.keep hBz.out).round hkn
              have hxb := HLB2.out x (List.mem_of_getElem? hxk5.out)
              obtain ⟨qa, hqa⟩ : ∃ q, Hid (hasB t2 (-x) = q) := ⟨_, rfl⟩
              obtain ⟨qb, hqb⟩ : ∃ q, Hid (hasB t2 x = q) := ⟨_, rfl⟩
              have hF2 : Hid (f + (if qa = true then 1 else 0) + ((R.drop (k + 1)).filter (fun x => hasB t2 (-x))).length = F) := by
                have := hFc.out
                rw [drop_cons_of hxk5.out, List.filter_cons, hqa.out] at this
                cases qa <;> simp [Hid] at this ⊢ <;> omega
              have hH2 : Hid (h' + (if qb = true then 1 else 0) + ((R.drop (k + 1)).filter (fun x => hasB t2 x)).length = 1) := by
                have := hHc.out
                rw [drop_cons_of hxk5.out, List.filter_cons, hqb.out] at this
                cases qb <;> simp [Hid] at this ⊢ <;> omega
              have z5 := (cell_lt hcell5).1
              have u3 : (0 : Int) ≤ (k : Int) := by omega
              have u4 : (k : Int) < (nl2 : Int) := by omega
              have ITZ := Lib.hid (IT3.out.keep hBz.out)
              have HLE : Hid (L2 = some ⟨b5, off5, none⟩) := hAe5
              subst hAe5
              clear hFc hHc hxk5 hbb5
              go_wp2_with fail
              go_quiet ((go_at_call 29; exact RetQ.quiet (has_any _ _ _ t2 (-x) _ (ITZ.out.keep (below_drewN _ _)) qa hqa)))
              obtain ⟨wq, hwq⟩ : ∃ wq : World, wq = wr.drewN nq := ⟨_, rfl⟩
              have hbq : Below wr.heap.size wr wq := by rw [hwq]; exact below_drewN _ _
              (try rw [← hwq])
              have BQ := Lib.hid (below_next hBz.out hbq)
              have KQ := (KTR.out.keep hbq).cell 0
              simp at KQ
              have zq := (cell_lt KQ).1
              have hcellq := keepBox hbq hcell5
              have zcq := (cell_lt hcellq).1
              have ITQ := Lib.hid (ITZ.out.keep hbq)
              clear hwq hbq hcell5 q0 zt z5 KTR ITZ
              cases qa
              · have hF3 : Hid (f + ((R.drop (k + 1)).filter (fun x => hasB t2 (-x))).length = F) := by simpa [Hid] using hF2.out
                clear hF2
                go_wp2_with fail
                go_quiet ((go_at_call 29; exact RetQ.quiet (has_any _ _ _ t2 x _ (ITQ.out.keep (below_drewN _ _)) qb hqb)))
                have BZ2 := Lib.hid (below_next BQ.out (below_drewN wq nq))
                cases qb
                · have hH3 : Hid (h' + ((R.drop (k + 1)).filter (fun x => hasB t2 x)).length = 1) := by simpa [Hid] using hH2.out
                  clear hH2
                  go_wp2_with fail
                  go_roundw
                  case rel => exact ⟨k + 1, f, h', by omega, by omega, by omega, by first | rfl | go_num, by first | rfl | go_num, by go_num, BZ2, hF3, hH3⟩
                  case measure => simp [intOf] <;> omega
                · have hH3 : Hid (h' + 1 + ((R.drop (k + 1)).filter (fun x => hasB t2 x)).length = 1) := by simpa [Hid] using hH2.out
                  clear hH2
                  go_wp2_with fail
                  go_roundw
                  case rel => exact ⟨k + 1, f, h' + 1, by omega, by omega, by omega, by first | rfl | go_num, by first | rfl | go_num, by go_num, BZ2, hF3, hH3⟩
                  case measure => simp [intOf] <;> omega
              · have hF3 : Hid (f + 1 + ((R.drop (k + 1)).filter (fun x => hasB t2 (-x))).length = F) := by simpa [Hid] using hF2.out
                clear hF2
                go_wp2_with fail
                go_quiet ((go_at_call 29; exact RetQ.quiet (has_any _ _ _ t2 x _ (ITQ.out.keep (below_drewN _ _)) qb hqb)))
                have BZ2 := Lib.hid (below_next BQ.out (below_drewN wq nq))
                cases qb
                · have hH3 : Hid (h' + ((R.drop (k + 1)).filter (fun x => hasB t2 x)).length = 1) := by simpa [Hid] using hH2.out
                  clear hH2
                  go_wp2_with fail
                  go_roundw
                  case rel => exact ⟨k + 1, f + 1, h', by omega, by omega, by omega, by first | rfl | go_num, by first | rfl | go_num, by go_num, BZ2, hF3, hH3⟩
                  case measure => simp [intOf] <;> omega
                · have hH3 : Hid (h' + 1 + ((R.drop (k + 1)).filter (fun x => hasB t2 x)).length = 1) := by simpa [Hid] using hH2.out
                  clear hH2
                  go_wp2_with fail
                  go_roundw
                  case rel => exact ⟨k + 1, f + 1, h' + 1, by omega, by omega, by omega, by first | rfl | go_num, by first | rfl | go_num, by go_num, BZ2, hF3, hH3⟩
                  case measure => simp [intOf] <;> omega
            · have hf1 : f = F := by have := hFc.out; rw [List.drop_of_length_le (by rw [IL3.out.len]; omega)] at this; simpa using this
              have hh1 : h' = 1 := by have := hHc.out; rw [List.drop_of_length_le (by rw [IL3.out.len]; omega)] at this; simpa using this
              subst hf1 hh1
              have d35 : ((f : Int) == (nl2 : Int) - 1) = true := by rw [beq_iff_eq]; omega
              have BZW := Lib.hid (below_next BHW.out hBz.out)
              clear hFc hHc
              go_wp2_with fail
              go_ret
              exact ⟨rfl, BZW.out⟩
  · have d1 : (r1 != 0) = true := by simpa using hr1
    go_enter Try.func6, Try.ntmps6
    go_wp2_with fail
    refine (heavy_any _ _ _ _ _ hn63 _ hhv).mono ?_
    rintro e w1 ⟨rfl, hb1⟩
    obtain ⟨K_c0, B_w1, l_w1⟩ := blk1 hb1
    replace G := Lib.hid (G.out.keep B_w1)
    replace I := Lib.hid (I.out.keep B_w1)
    have HB := Lib.hid B_w1
    have K_c := Lib.hid K_c0
    clear hb1 B_w1 K_c0
    have cK_c_0 := K_c.out.cell 0
    have cK_c_1 := K_c.out.cell 1
    simp at cK_c_0 cK_c_1
    have zK_c := K_c.out.lt
    go_wp2_with fail
    refine (learnClause_wrong _ _ _ _ _ _ xss l vars w1 G.out hv I.out r1 r2 hr hr1).mono ?_
    rintro e w2 ⟨rfl, hb2⟩
    have B_w2 := hb2
    replace G := Lib.hid (G.out.keep B_w2)
    replace I := Lib.hid (I.out.keep B_w2)
    replace K_c := Lib.hid (K_c.out.keep B_w2)
    replace HB := Lib.hid (below_next HB.out B_w2)
    clear hb2 B_w2
    clear cK_c_0 cK_c_1 zK_c
    have cK_c_0 := K_c.out.cell 0
    have cK_c_1 := K_c.out.cell 1
    simp at cK_c_0 cK_c_1
    have zK_c := K_c.out.lt
    go_wp2_with fail
    refine (round_any _).mono ?_
    rintro e w4 ⟨A5, n5, c5, rfl, hG5, hb4⟩
    obtain ⟨K_x0, B_w4, l_w4⟩ := blk1 hb4
    replace G := Lib.hid (G.out.keep B_w4)
    replace I := Lib.hid (I.out.keep B_w4)
    replace K_c := Lib.hid (K_c.out.keep B_w4)
    replace HB := Lib.hid (below_next HB.out B_w4)
    have K_x := Lib.hid K_x0
    clear hb4 B_w4 K_x0
    clear cK_c_0 cK_c_1 zK_c
    have cK_c_0 := K_c.out.cell 0
    have cK_c_1 := K_c.out.cell 1
    simp at cK_c_0 cK_c_1
    have zK_c := K_c.out.lt
    have cK_x_0 := K_x.out.cell 0
    have cK_x_1 := K_x.out.cell 1
    simp at cK_x_0 cK_x_1
    have zK_x := K_x.out.lt
    have GP := Lib.hid hG5
    clear hG5
    go_wp2_with fail
    have hone := learnClause_own _ _ _ _ _ _ [[-1, 2], [-1, -2]] [1] 2 _ (GP.out.keep (below_new _ _)) ⟨by omega, by omega⟩ (ints_made _ 3 [1] rfl (by simp [I64]) (by decide)) (by show _ = _; decide) [1, 2] [-1, 0] [1, 1] 1 1 (by show _ = _; decide) (by omega)
    rw [show taughtF [[-1, 2], [-1, -2]] [1, 2] [-1, 0] [1, 1] 1 1 = [-1] by decide, show backF [1, 2] [1, 1] ((1 : Nat) : Int) [-1] 0 = 0 by decide] at hone
    refine hone.mono ?_
    clear hone
    rintro e w5 ⟨L5, nl5, cl5, rfl, hI5, hb5⟩
    obtain ⟨K_o0, B_w5, l_w5⟩ := blk1 hb5
    replace G := Lib.hid (G.out.keep B_w5)
    replace I := Lib.hid (I.out.keep B_w5)
    replace GP := Lib.hid (GP.out.keep B_w5)
    replace K_c := Lib.hid (K_c.out.keep B_w5)
    replace K_x := Lib.hid (K_x.out.keep B_w5)
    replace HB := Lib.hid (below_next HB.out B_w5)
    have K_o := Lib.hid K_o0
    clear hb5 B_w5 K_o0
    clear cK_c_0 cK_c_1 zK_c cK_x_0 cK_x_1 zK_x
    have cK_c_0 := K_c.out.cell 0
    have cK_c_1 := K_c.out.cell 1
    simp at cK_c_0 cK_c_1
    have zK_c := K_c.out.lt
    have cK_x_0 := K_x.out.cell 0
    have cK_x_1 := K_x.out.cell 1
    simp at cK_x_0 cK_x_1
    have zK_x := K_x.out.lt
    have cK_o_0 := K_o.out.cell 0
    simp at cK_o_0
    have zK_o := K_o.out.lt
    have IO := Lib.hid hI5
    clear hI5
    go_wp2_with fail
    refine (same_any _ _ _ _ _ _ [-1] [-1] _ (IO.out.keep (below_alloc (below_new _ _) _)) (ints_made _ 3 [-1] (by simp) (by simp [I64]) (by decide)) true (by show _ = _; rfl)).mono ?_
    rintro e w6 hq6
    obtain ⟨rfl, hb6⟩ := hq6.v
    clear hq6
    obtain ⟨K_g0, K_m0, B_w6, l_w6⟩ := two_blks hb6
    replace G := Lib.hid (G.out.keep B_w6)
    replace I := Lib.hid (I.out.keep B_w6)
    replace GP := Lib.hid (GP.out.keep B_w6)
    replace IO := Lib.hid (IO.out.keep B_w6)
    replace K_c := Lib.hid (K_c.out.keep B_w6)
    replace K_x := Lib.hid (K_x.out.keep B_w6)
    replace K_o := Lib.hid (K_o.out.keep B_w6)
    replace HB := Lib.hid (below_next HB.out B_w6)
    have K_g := Lib.hid K_g0
    have K_m := Lib.hid K_m0
    clear hb6 B_w6 K_g0 K_m0
    clear cK_c_0 cK_c_1 zK_c cK_x_0 cK_x_1 zK_x cK_o_0 zK_o
    have cK_c_0 := K_c.out.cell 0
    have cK_c_1 := K_c.out.cell 1
    simp at cK_c_0 cK_c_1
    have zK_c := K_c.out.lt
    have cK_x_0 := K_x.out.cell 0
    have cK_x_1 := K_x.out.cell 1
    simp at cK_x_0 cK_x_1
    have zK_x := K_x.out.lt
    have cK_o_0 := K_o.out.cell 0
    simp at cK_o_0
    have zK_o := K_o.out.lt
    have cK_g_0 := K_g.out.cell 0
    have cK_g_1 := K_g.out.cell 1
    simp at cK_g_0 cK_g_1
    have zK_g := K_g.out.lt
    have cK_m_0 := K_m.out.cell 0
    simp at cK_m_0
    have zK_m := K_m.out.lt
    go_wp2_with fail
    go_ret
    exact ⟨rfl, HB.out⟩
end Go.Proofs.Ytabjbpkojbdgaaa
