/- The walk of PropFalls: it returns true. (Printed by wip/tools/proplaws.py.) -/
import Derived.Test.YtghebbkpdldjfaaProp
import Derived.Test.YtghebbkpdldjfaaRefAsk
import Derived.Test.YtghebbkpdldjfaaHolds
namespace Go.Proofs.Ytghebbkpdldjfaa
open Go.RowKit

set_option maxHeartbeats 4000000 in
set_option maxRecDepth 100000 in
theorem propFalls_walk {vars : Int} {A B : Option Addr} {n c m d : Nat} {xss : List (List Int)} {l : List Int} (w : World) (hv : I64 vars) (h : Grid w A n c xss) (h' : Ints w B m d l) :
    Calls Try.prog 8 #[.agg #[.int .i64 vars, .slice A n c], .slice B m d] w fun e w' => e = .returned (.bool true) ∧ Below w.heap.size w w' := by
  have hbd := h.bd
  have G := Lib.hid h
  have I := Lib.hid h'
  have hn63 : n ≤ 9223372036854775807 := by omega
  obtain ⟨hvy, hhv⟩ : ∃ r, Hid ((decide (40 < vars) || decide (60 < (n : Int))) = r) := ⟨_, rfl⟩
  obtain ⟨r1, r2, hr⟩ : ∃ r1 r2, Hid (besideR vars xss l = (r1, r2)) := ⟨_, _, rfl⟩
  clear h h'
  cases hvy
  rotate_left
  · go_enter Try.func8, Try.ntmps8
    go_wp2_with fail
    refine (heavy_any _ _ _ _ _ hn63 _ hhv).mono ?_
    rintro e w1 ⟨rfl, hb1⟩
    obtain ⟨K_c0, B_w1, l_w1⟩ := blk1 hb1
    replace G := Lib.hid (G.out.keep B_w1)
    replace I := Lib.hid (I.out.keep B_w1)
    have HB := Lib.hid B_w1
    have K_c := Lib.hid K_c0
    clear hb1 B_w1 K_c0
    have cK_c_0 := K_c.out.cell 0
    have cK_c_1 := K_c.out.cell 1
    simp at cK_c_0 cK_c_1
    have zK_c := K_c.out.lt
    go_wp2_with fail
    go_ret
    exact ⟨rfl, HB.out⟩
  by_cases hr1 : r1 = 0
  · subst hr1
    obtain ⟨hr0, hc0, hll⟩ := besideR_ok (vars := vars) (xss := xss) (l := l) (by rw [hr.out])
    obtain rfl : r2 = 0 := by rw [hr.out] at hr0; simpa using hr0
    obtain ⟨_, v0, v1, hn400, hrows⟩ := checkC_ok hc0
    have v6 : vars ≤ 1000000 := by omega
    have HC : Hid (∀ x ∈ xss, Lits vars x) := fun x hx => (hrows x hx).2
    have HLL := Lib.hid hll
    clear hr0 hc0 hrows hll hn400
    go_enter Try.func8, Try.ntmps8
    go_wp2_with fail
    refine (heavy_any _ _ _ _ _ hn63 _ hhv).mono ?_
    rintro e w1 ⟨rfl, hb1⟩
    obtain ⟨K_c0, B_w1, l_w1⟩ := blk1 hb1
    replace G := Lib.hid (G.out.keep B_w1)
    replace I := Lib.hid (I.out.keep B_w1)
    have HB := Lib.hid B_w1
    have K_c := Lib.hid K_c0
    clear hb1 B_w1 K_c0
    have cK_c_0 := K_c.out.cell 0
    have cK_c_1 := K_c.out.cell 1
    simp at cK_c_0 cK_c_1
    have zK_c := K_c.out.lt
    obtain ⟨fl, ha⟩ : ∃ fl, Hid (fallsF vars xss l = fl) := ⟨_, rfl⟩
    have dfl : (fl == fl) = true := by simp
    go_wp2_with fail
    refine (propFalls_own _ _ _ _ _ _ xss l vars _ G.out hv I.out hr fl ha).mono ?_
    rintro e w2 ⟨rfl, hb2⟩
    have B_w2 := hb2
    replace G := Lib.hid (G.out.keep B_w2)
    replace I := Lib.hid (I.out.keep B_w2)
    replace K_c := Lib.hid (K_c.out.keep B_w2)
    replace HB := Lib.hid (below_next HB.out B_w2)
    clear hb2 B_w2
    clear cK_c_0 cK_c_1 zK_c
    have cK_c_0 := K_c.out.cell 0
    have cK_c_1 := K_c.out.cell 1
    simp at cK_c_0 cK_c_1
    have zK_c := K_c.out.lt
    go_wp2_with fail
    refine (beside_any _ _ _ _ _ _ xss l vars _ (G.out.keep (below_new _ _)) hv (I.out.keep (below_new _ _)) _ _ hr).mono ?_
    rintro e w3 ⟨rfl, hb3⟩
    obtain ⟨K_f0, B_w3, l_w3⟩ := blk1 hb3
    replace G := Lib.hid (G.out.keep B_w3)
    replace I := Lib.hid (I.out.keep B_w3)
    replace K_c := Lib.hid (K_c.out.keep B_w3)
    replace HB := Lib.hid (below_next HB.out B_w3)
    have K_f := Lib.hid K_f0
    clear hb3 B_w3 K_f0
    clear cK_c_0 cK_c_1 zK_c
    have cK_c_0 := K_c.out.cell 0
    have cK_c_1 := K_c.out.cell 1
    simp at cK_c_0 cK_c_1
    have zK_c := K_c.out.lt
    have cK_f_0 := K_f.out.cell 0
    have cK_f_1 := K_f.out.cell 1
    simp at cK_f_0 cK_f_1
    have zK_f := K_f.out.lt
    go_wp2_with fail
    refine (pair_any _).mono ?_
    rintro e w5 ⟨A5, n5, c5, rfl, hG5, hb5⟩
    obtain ⟨K_x0, B_w5, l_w5⟩ := blk1 hb5
    replace G := Lib.hid (G.out.keep B_w5)
    replace I := Lib.hid (I.out.keep B_w5)
    replace K_c := Lib.hid (K_c.out.keep B_w5)
    replace K_f := Lib.hid (K_f.out.keep B_w5)
    replace HB := Lib.hid (below_next HB.out B_w5)
    have K_x := Lib.hid K_x0
    clear hb5 B_w5 K_x0
    clear cK_c_0 cK_c_1 zK_c cK_f_0 cK_f_1 zK_f
    have cK_c_0 := K_c.out.cell 0
    have cK_c_1 := K_c.out.cell 1
    simp at cK_c_0 cK_c_1
    have zK_c := K_c.out.lt
    have cK_f_0 := K_f.out.cell 0
    have cK_f_1 := K_f.out.cell 1
    simp at cK_f_0 cK_f_1
    have zK_f := K_f.out.lt
    have cK_x_0 := K_x.out.cell 0
    have cK_x_1 := K_x.out.cell 1
    simp at cK_x_0 cK_x_1
    have zK_x := K_x.out.lt
    have GP := Lib.hid hG5
    clear hG5
    go_wp2_with fail
    refine (propFalls_own _ _ _ _ _ _ [[1, 2], [-1]] [2] 2 _ (GP.out.keep (below_new _ _)) ⟨by omega, by omega⟩ (ints_made _ 3 [2] rfl (by simp [I64]) (by decide)) (by show _ = _; decide) true (by show _ = _; decide)).mono ?_
    rintro e w6 ⟨rfl, hb6⟩
    obtain ⟨K_i0, B_w6, l_w6⟩ := blk1 hb6
    replace G := Lib.hid (G.out.keep B_w6)
    replace I := Lib.hid (I.out.keep B_w6)
    replace GP := Lib.hid (GP.out.keep B_w6)
    replace K_c := Lib.hid (K_c.out.keep B_w6)
    replace K_f := Lib.hid (K_f.out.keep B_w6)
    replace K_x := Lib.hid (K_x.out.keep B_w6)
    replace HB := Lib.hid (below_next HB.out B_w6)
    have K_i := Lib.hid K_i0
    clear hb6 B_w6 K_i0
    clear cK_c_0 cK_c_1 zK_c cK_f_0 cK_f_1 zK_f cK_x_0 cK_x_1 zK_x
    have cK_c_0 := K_c.out.cell 0
    have cK_c_1 := K_c.out.cell 1
    simp at cK_c_0 cK_c_1
    have zK_c := K_c.out.lt
    have cK_f_0 := K_f.out.cell 0
    have cK_f_1 := K_f.out.cell 1
    simp at cK_f_0 cK_f_1
    have zK_f := K_f.out.lt
    have cK_x_0 := K_x.out.cell 0
    have cK_x_1 := K_x.out.cell 1
    simp at cK_x_0 cK_x_1
    have zK_x := K_x.out.lt
    have cK_i_0 := K_i.out.cell 0
    simp at cK_i_0
    have zK_i := K_i.out.lt
    go_wp2_with fail
    refine (fallsR_any _ _ _ _ _ _ xss l vars _ (G.out.keep (below_new _ _)) (I.out.keep (below_new _ _)) v0 v6 HC.out HLL.out fl ha).mono ?_
    rintro e w7 ⟨rfl, hb7⟩
    obtain ⟨K_g0, B_w7, l_w7⟩ := blk1 hb7
    replace G := Lib.hid (G.out.keep B_w7)
    replace I := Lib.hid (I.out.keep B_w7)
    replace GP := Lib.hid (GP.out.keep B_w7)
    replace K_c := Lib.hid (K_c.out.keep B_w7)
    replace K_f := Lib.hid (K_f.out.keep B_w7)
    replace K_x := Lib.hid (K_x.out.keep B_w7)
    replace K_i := Lib.hid (K_i.out.keep B_w7)
    replace HB := Lib.hid (below_next HB.out B_w7)
    have K_g := Lib.hid K_g0
    clear hb7 B_w7 K_g0
    clear cK_c_0 cK_c_1 zK_c cK_f_0 cK_f_1 zK_f cK_x_0 cK_x_1 zK_x cK_i_0 zK_i
    have cK_c_0 := K_c.out.cell 0
    have cK_c_1 := K_c.out.cell 1
    simp at cK_c_0 cK_c_1
    have zK_c := K_c.out.lt
    have cK_f_0 := K_f.out.cell 0
    have cK_f_1 := K_f.out.cell 1
    simp at cK_f_0 cK_f_1
    have zK_f := K_f.out.lt
    have cK_x_0 := K_x.out.cell 0
    have cK_x_1 := K_x.out.cell 1
    simp at cK_x_0 cK_x_1
    have zK_x := K_x.out.lt
    have cK_i_0 := K_i.out.cell 0
    simp at cK_i_0
    have zK_i := K_i.out.lt
    have cK_g_0 := K_g.out.cell 0
    have cK_g_1 := K_g.out.cell 1
    simp at cK_g_0 cK_g_1
    have zK_g := K_g.out.lt
    go_wp2_with fail
    go_ret
    exact ⟨rfl, HB.out⟩
  · have d1 : (r1 != 0) = true := by simpa using hr1
    go_enter Try.func8, Try.ntmps8
    go_wp2_with fail
    refine (heavy_any _ _ _ _ _ hn63 _ hhv).mono ?_
    rintro e w1 ⟨rfl, hb1⟩
    obtain ⟨K_c0, B_w1, l_w1⟩ := blk1 hb1
    replace G := Lib.hid (G.out.keep B_w1)
    replace I := Lib.hid (I.out.keep B_w1)
    have HB := Lib.hid B_w1
    have K_c := Lib.hid K_c0
    clear hb1 B_w1 K_c0
    have cK_c_0 := K_c.out.cell 0
    have cK_c_1 := K_c.out.cell 1
    simp at cK_c_0 cK_c_1
    have zK_c := K_c.out.lt
    go_wp2_with fail
    refine (propFalls_wrong _ _ _ _ _ _ xss l vars _ G.out hv I.out r1 r2 hr hr1).mono ?_
    rintro e w2 ⟨rfl, hb2⟩
    have B_w2 := hb2
    replace G := Lib.hid (G.out.keep B_w2)
    replace I := Lib.hid (I.out.keep B_w2)
    replace K_c := Lib.hid (K_c.out.keep B_w2)
    replace HB := Lib.hid (below_next HB.out B_w2)
    clear hb2 B_w2
    clear cK_c_0 cK_c_1 zK_c
    have cK_c_0 := K_c.out.cell 0
    have cK_c_1 := K_c.out.cell 1
    simp at cK_c_0 cK_c_1
    have zK_c := K_c.out.lt
    go_wp2_with fail
    refine (beside_any _ _ _ _ _ _ xss l vars _ (G.out.keep (below_new _ _)) hv (I.out.keep (below_new _ _)) _ _ hr).mono ?_
    rintro e w3 ⟨rfl, hb3⟩
    obtain ⟨K_f0, B_w3, l_w3⟩ := blk1 hb3
    replace G := Lib.hid (G.out.keep B_w3)
    replace I := Lib.hid (I.out.keep B_w3)
    replace K_c := Lib.hid (K_c.out.keep B_w3)
    replace HB := Lib.hid (below_next HB.out B_w3)
    have K_f := Lib.hid K_f0
    clear hb3 B_w3 K_f0
    clear cK_c_0 cK_c_1 zK_c
    have cK_c_0 := K_c.out.cell 0
    have cK_c_1 := K_c.out.cell 1
    simp at cK_c_0 cK_c_1
    have zK_c := K_c.out.lt
    have cK_f_0 := K_f.out.cell 0
    have cK_f_1 := K_f.out.cell 1
    simp at cK_f_0 cK_f_1
    have zK_f := K_f.out.lt
    go_wp2_with fail
    go_ret
    exact ⟨rfl, below_next HB.out (below_new _ _)⟩
end Go.Proofs.Ytghebbkpdldjfaa
