/- The walk of LearnLevels: it returns true. (Printed by wip/tools/proplaws.py.) -/
import Derived.Test.YtghebbkpdldjfaaProp
import Derived.Test.YtghebbkpdldjfaaRefAsk
import Derived.Test.YtghebbkpdldjfaaHolds
import Derived.Test.YtghebbkpdldjfaaLevels
import Derived.Test.YtghebbkpdldjfaaRefLev
namespace Go.Proofs.Ytghebbkpdldjfaa
open Go.RowKit

set_option maxHeartbeats 4000000 in
set_option maxRecDepth 100000 in
theorem learnLevels_walk {vars : Int} {A B : Option Addr} {n c m d : Nat} {xss : List (List Int)} {l : List Int} (w : World) (hv : I64 vars) (h : Grid w A n c xss) (h' : Ints w B m d l) :
    Calls Try.prog 9 #[.agg #[.int .i64 vars, .slice A n c], .slice B m d] w fun e w' => e = .returned (.bool true) ∧ Below w.heap.size w w' := by
  have hbd := h.bd
  have G := Lib.hid h
  have I := Lib.hid h'
  have hn63 : n ≤ 9223372036854775807 := by omega
  obtain ⟨hvy, hhv⟩ : ∃ r, Hid ((decide (40 < vars) || decide (60 < (n : Int))) = r) := ⟨_, rfl⟩
  obtain ⟨r1, r2, hr⟩ : ∃ r1 r2, Hid (besideR vars xss l = (r1, r2)) := ⟨_, _, rfl⟩
  clear h h'
  cases hvy
  rotate_left
  · go_enter Try.func9, Try.ntmps9
    go_wp2_with fail
    refine (heavy_any _ _ _ _ _ hn63 _ hhv).mono ?_
    rintro e w1 ⟨rfl, hb1⟩
    obtain ⟨K_c0, B_w1, l_w1⟩ := blk1 hb1
    replace G := Lib.hid (G.out.keep B_w1)
    replace I := Lib.hid (I.out.keep B_w1)
    have HB := Lib.hid B_w1
    have K_c := Lib.hid K_c0
    clear hb1 B_w1 K_c0
    have cK_c_0 := K_c.out.cell 0
    have cK_c_1 := K_c.out.cell 1
    simp at cK_c_0 cK_c_1
    have zK_c := K_c.out.lt
    go_wp2_with fail
    go_ret
    exact ⟨rfl, HB.out⟩
  by_cases hr1 : r1 = 0
  · subst hr1
    obtain ⟨hr0, hc0, hll⟩ := besideR_ok (vars := vars) (xss := xss) (l := l) (by rw [hr.out])
    obtain rfl : r2 = 0 := by rw [hr.out] at hr0; simpa using hr0
    obtain ⟨_, v0, v1, hn400, hrows⟩ := checkC_ok hc0
    have v6 : vars ≤ 1000000 := by omega
    have HC : Hid (∀ x ∈ xss, Lits vars x) := fun x hx => (hrows x hx).2
    have HLL := Lib.hid hll
    clear hr0 hc0 hrows hll hn400
    go_enter Try.func9, Try.ntmps9
    go_wp2_with fail
    refine (heavy_any _ _ _ _ _ hn63 _ hhv).mono ?_
    rintro e w1 ⟨rfl, hb1⟩
    obtain ⟨K_c0, B_w1, l_w1⟩ := blk1 hb1
    replace G := Lib.hid (G.out.keep B_w1)
    replace I := Lib.hid (I.out.keep B_w1)
    have HB := Lib.hid B_w1
    have K_c := Lib.hid K_c0
    clear hb1 B_w1 K_c0
    have cK_c_0 := K_c.out.cell 0
    have cK_c_1 := K_c.out.cell 1
    simp at cK_c_0 cK_c_1
    have zK_c := K_c.out.lt
    obtain ⟨t, y, v, z, a, ha⟩ : ∃ t y v z a, Hid (startF vars xss l = (t, y, v, z, a)) := ⟨_, _, _, _, _, rfl⟩
    go_wp2_with fail
    refine (levels_own _ _ _ _ _ _ xss l vars _ G.out hv I.out hr t y v z a ha).mono ?_
    rintro e w2 ⟨L, nl, cl, V, nv, cv, rfl, hI2, hV2, hb2⟩
    have B_w2 := hb2
    replace G := Lib.hid (G.out.keep B_w2)
    replace I := Lib.hid (I.out.keep B_w2)
    replace K_c := Lib.hid (K_c.out.keep B_w2)
    replace HB := Lib.hid (below_next HB.out B_w2)
    clear hb2 B_w2
    clear cK_c_0 cK_c_1 zK_c
    have cK_c_0 := K_c.out.cell 0
    have cK_c_1 := K_c.out.cell 1
    simp at cK_c_0 cK_c_1
    have zK_c := K_c.out.lt
    have IL := Lib.hid hI2
    have IV := Lib.hid hV2
    clear hI2 hV2
    go_wp2_with fail
    refine (beside_any _ _ _ _ _ _ xss l vars _ (G.out.keep (below_new _ _)) hv (I.out.keep (below_new _ _)) _ _ hr).mono ?_
    rintro e w3 ⟨rfl, hb3⟩
    obtain ⟨K_f0, B_w3, l_w3⟩ := blk1 hb3
    replace G := Lib.hid (G.out.keep B_w3)
    replace I := Lib.hid (I.out.keep B_w3)
    replace IL := Lib.hid (IL.out.keep B_w3)
    replace IV := Lib.hid (IV.out.keep B_w3)
    replace K_c := Lib.hid (K_c.out.keep B_w3)
    replace HB := Lib.hid (below_next HB.out B_w3)
    have K_f := Lib.hid K_f0
    clear hb3 B_w3 K_f0
    clear cK_c_0 cK_c_1 zK_c
    have cK_c_0 := K_c.out.cell 0
    have cK_c_1 := K_c.out.cell 1
    simp at cK_c_0 cK_c_1
    have zK_c := K_c.out.lt
    have cK_f_0 := K_f.out.cell 0
    have cK_f_1 := K_f.out.cell 1
    simp at cK_f_0 cK_f_1
    have zK_f := K_f.out.lt
    go_wp2_with fail
    refine (lev_ref _ _ _ _ _ _ xss l vars _ (G.out.keep (below_new _ _)) (I.out.keep (below_new _ _)) v0 v6 HC.out HLL.out t y v z a ha).mono ?_
    rintro e w4 ⟨L4, nl4, cl4, Y4, ny4, cy4, V4, nv4, cv4, rfl, hI4, hJ4, hV4, _, _, _, hb4⟩
    obtain ⟨K_x0, B_w4, l_w4⟩ := blk1 hb4
    replace G := Lib.hid (G.out.keep B_w4)
    replace I := Lib.hid (I.out.keep B_w4)
    replace IL := Lib.hid (IL.out.keep B_w4)
    replace IV := Lib.hid (IV.out.keep B_w4)
    replace K_c := Lib.hid (K_c.out.keep B_w4)
    replace K_f := Lib.hid (K_f.out.keep B_w4)
    replace HB := Lib.hid (below_next HB.out B_w4)
    have K_x := Lib.hid K_x0
    clear hb4 B_w4 K_x0
    clear cK_c_0 cK_c_1 zK_c cK_f_0 cK_f_1 zK_f
    have cK_c_0 := K_c.out.cell 0
    have cK_c_1 := K_c.out.cell 1
    simp at cK_c_0 cK_c_1
    have zK_c := K_c.out.lt
    have cK_f_0 := K_f.out.cell 0
    have cK_f_1 := K_f.out.cell 1
    simp at cK_f_0 cK_f_1
    have zK_f := K_f.out.lt
    have cK_x_0 := K_x.out.cell 0
    have cK_x_1 := K_x.out.cell 1
    simp at cK_x_0 cK_x_1
    have zK_x := K_x.out.lt
    have IT := Lib.hid hI4
    have IW := Lib.hid hV4
    clear hI4 hJ4 hV4
    go_wp2_with fail
    refine (pair_any _).mono ?_
    rintro e w5 ⟨A5, n5, c5, rfl, hG5, hb5⟩
    obtain ⟨K_t0, B_w5, l_w5⟩ := blk1 hb5
    replace G := Lib.hid (G.out.keep B_w5)
    replace I := Lib.hid (I.out.keep B_w5)
    replace IL := Lib.hid (IL.out.keep B_w5)
    replace IV := Lib.hid (IV.out.keep B_w5)
    replace IT := Lib.hid (IT.out.keep B_w5)
    replace IW := Lib.hid (IW.out.keep B_w5)
    replace K_c := Lib.hid (K_c.out.keep B_w5)
    replace K_f := Lib.hid (K_f.out.keep B_w5)
    replace K_x := Lib.hid (K_x.out.keep B_w5)
    replace HB := Lib.hid (below_next HB.out B_w5)
    have K_t := Lib.hid K_t0
    clear hb5 B_w5 K_t0
    clear cK_c_0 cK_c_1 zK_c cK_f_0 cK_f_1 zK_f cK_x_0 cK_x_1 zK_x
    have cK_c_0 := K_c.out.cell 0
    have cK_c_1 := K_c.out.cell 1
    simp at cK_c_0 cK_c_1
    have zK_c := K_c.out.lt
    have cK_f_0 := K_f.out.cell 0
    have cK_f_1 := K_f.out.cell 1
    simp at cK_f_0 cK_f_1
    have zK_f := K_f.out.lt
    have cK_x_0 := K_x.out.cell 0
    have cK_x_1 := K_x.out.cell 1
    simp at cK_x_0 cK_x_1
    have zK_x := K_x.out.lt
    have cK_t_0 := K_t.out.cell 0
    have cK_t_1 := K_t.out.cell 1
    have cK_t_2 := K_t.out.cell 2
    simp at cK_t_0 cK_t_1 cK_t_2
    have zK_t := K_t.out.lt
    have GP := Lib.hid hG5
    clear hG5
    go_wp2_with fail
    refine (levels_own _ _ _ _ _ _ [[1, 2], [-1]] [] 2 _ GP.out ⟨by omega, by omega⟩ (ints_nil _) (by show _ = _; decide) [-1, 2] [1, 0] [0, 0] 0 (-1) (by show _ = _; decide)).mono ?_
    rintro e w6 ⟨L6, nl6, cl6, V6, nv6, cv6, rfl, hI6, hV6, hb6⟩
    have B_w6 := hb6
    replace G := Lib.hid (G.out.keep B_w6)
    replace I := Lib.hid (I.out.keep B_w6)
    replace IL := Lib.hid (IL.out.keep B_w6)
    replace IV := Lib.hid (IV.out.keep B_w6)
    replace IT := Lib.hid (IT.out.keep B_w6)
    replace IW := Lib.hid (IW.out.keep B_w6)
    replace GP := Lib.hid (GP.out.keep B_w6)
    replace K_c := Lib.hid (K_c.out.keep B_w6)
    replace K_f := Lib.hid (K_f.out.keep B_w6)
    replace K_x := Lib.hid (K_x.out.keep B_w6)
    replace K_t := Lib.hid (K_t.out.keep B_w6)
    replace HB := Lib.hid (below_next HB.out B_w6)
    clear hb6 B_w6
    clear cK_c_0 cK_c_1 zK_c cK_f_0 cK_f_1 zK_f cK_x_0 cK_x_1 zK_x cK_t_0 cK_t_1 cK_t_2 zK_t
    have cK_c_0 := K_c.out.cell 0
    have cK_c_1 := K_c.out.cell 1
    simp at cK_c_0 cK_c_1
    have zK_c := K_c.out.lt
    have cK_f_0 := K_f.out.cell 0
    have cK_f_1 := K_f.out.cell 1
    simp at cK_f_0 cK_f_1
    have zK_f := K_f.out.lt
    have cK_x_0 := K_x.out.cell 0
    have cK_x_1 := K_x.out.cell 1
    simp at cK_x_0 cK_x_1
    have zK_x := K_x.out.lt
    have cK_t_0 := K_t.out.cell 0
    have cK_t_1 := K_t.out.cell 1
    have cK_t_2 := K_t.out.cell 2
    simp at cK_t_0 cK_t_1 cK_t_2
    have zK_t := K_t.out.lt
    have IO := Lib.hid hI6
    clear hI6 hV6
    go_wp2_with fail
    refine (same_any _ _ _ _ _ _ t t _ (IL.out.keep (below_new _ _)) (IT.out.keep (below_new _ _)) true (by show _ = _; simp [sameB])).mono ?_
    rintro e w7 hq7
    obtain ⟨rfl, hb7⟩ := hq7.v
    clear hq7
    obtain ⟨K_g0, B_w7, l_w7⟩ := blk1 hb7
    replace G := Lib.hid (G.out.keep B_w7)
    replace I := Lib.hid (I.out.keep B_w7)
    replace IL := Lib.hid (IL.out.keep B_w7)
    replace IV := Lib.hid (IV.out.keep B_w7)
    replace IT := Lib.hid (IT.out.keep B_w7)
    replace IW := Lib.hid (IW.out.keep B_w7)
    replace GP := Lib.hid (GP.out.keep B_w7)
    replace IO := Lib.hid (IO.out.keep B_w7)
    replace K_c := Lib.hid (K_c.out.keep B_w7)
    replace K_f := Lib.hid (K_f.out.keep B_w7)
    replace K_x := Lib.hid (K_x.out.keep B_w7)
    replace K_t := Lib.hid (K_t.out.keep B_w7)
    replace HB := Lib.hid (below_next HB.out B_w7)
    have K_g := Lib.hid K_g0
    clear hb7 B_w7 K_g0
    clear cK_c_0 cK_c_1 zK_c cK_f_0 cK_f_1 zK_f cK_x_0 cK_x_1 zK_x cK_t_0 cK_t_1 cK_t_2 zK_t
    have cK_c_0 := K_c.out.cell 0
    have cK_c_1 := K_c.out.cell 1
    simp at cK_c_0 cK_c_1
    have zK_c := K_c.out.lt
    have cK_f_0 := K_f.out.cell 0
    have cK_f_1 := K_f.out.cell 1
    simp at cK_f_0 cK_f_1
    have zK_f := K_f.out.lt
    have cK_x_0 := K_x.out.cell 0
    have cK_x_1 := K_x.out.cell 1
    simp at cK_x_0 cK_x_1
    have zK_x := K_x.out.lt
    have cK_t_0 := K_t.out.cell 0
    have cK_t_1 := K_t.out.cell 1
    have cK_t_2 := K_t.out.cell 2
    simp at cK_t_0 cK_t_1 cK_t_2
    have zK_t := K_t.out.lt
    have cK_g_0 := K_g.out.cell 0
    have cK_g_1 := K_g.out.cell 1
    simp at cK_g_0 cK_g_1
    have zK_g := K_g.out.lt
    go_wp2_with fail
    refine (same_any _ _ _ _ _ _ v v _ IV.out IW.out true (by show _ = _; simp [sameB])).mono ?_
    rintro e w8 hq8
    obtain ⟨rfl, hb8⟩ := hq8.v
    clear hq8
    have B_w8 := hb8
    replace G := Lib.hid (G.out.keep B_w8)
    replace I := Lib.hid (I.out.keep B_w8)
    replace IL := Lib.hid (IL.out.keep B_w8)
    replace IV := Lib.hid (IV.out.keep B_w8)
    replace IT := Lib.hid (IT.out.keep B_w8)
    replace IW := Lib.hid (IW.out.keep B_w8)
    replace GP := Lib.hid (GP.out.keep B_w8)
    replace IO := Lib.hid (IO.out.keep B_w8)
    replace K_c := Lib.hid (K_c.out.keep B_w8)
    replace K_f := Lib.hid (K_f.out.keep B_w8)
    replace K_x := Lib.hid (K_x.out.keep B_w8)
    replace K_t := Lib.hid (K_t.out.keep B_w8)
    replace K_g := Lib.hid (K_g.out.keep B_w8)
    replace HB := Lib.hid (below_next HB.out B_w8)
    clear hb8 B_w8
    clear cK_c_0 cK_c_1 zK_c cK_f_0 cK_f_1 zK_f cK_x_0 cK_x_1 zK_x cK_t_0 cK_t_1 cK_t_2 zK_t cK_g_0 cK_g_1 zK_g
    have cK_c_0 := K_c.out.cell 0
    have cK_c_1 := K_c.out.cell 1
    simp at cK_c_0 cK_c_1
    have zK_c := K_c.out.lt
    have cK_f_0 := K_f.out.cell 0
    have cK_f_1 := K_f.out.cell 1
    simp at cK_f_0 cK_f_1
    have zK_f := K_f.out.lt
    have cK_x_0 := K_x.out.cell 0
    have cK_x_1 := K_x.out.cell 1
    simp at cK_x_0 cK_x_1
    have zK_x := K_x.out.lt
    have cK_t_0 := K_t.out.cell 0
    have cK_t_1 := K_t.out.cell 1
    have cK_t_2 := K_t.out.cell 2
    simp at cK_t_0 cK_t_1 cK_t_2
    have zK_t := K_t.out.lt
    have cK_g_0 := K_g.out.cell 0
    have cK_g_1 := K_g.out.cell 1
    simp at cK_g_0 cK_g_1
    have zK_g := K_g.out.lt
    go_wp2_with fail
    refine (same_any _ _ _ _ _ _ [-1, 2] [-1, 2] _ (IO.out.keep (below_new _ _)) (ints_made _ 3 [-1, 2] rfl (by simp [I64]) (by decide)) true (by show _ = _; rfl)).mono ?_
    rintro e w9 hq9
    obtain ⟨rfl, hb9⟩ := hq9.v
    clear hq9
    obtain ⟨K_o0, B_w9, l_w9⟩ := blk1 hb9
    replace G := Lib.hid (G.out.keep B_w9)
    replace I := Lib.hid (I.out.keep B_w9)
    replace IL := Lib.hid (IL.out.keep B_w9)
    replace IV := Lib.hid (IV.out.keep B_w9)
    replace IT := Lib.hid (IT.out.keep B_w9)
    replace IW := Lib.hid (IW.out.keep B_w9)
    replace GP := Lib.hid (GP.out.keep B_w9)
    replace IO := Lib.hid (IO.out.keep B_w9)
    replace K_c := Lib.hid (K_c.out.keep B_w9)
    replace K_f := Lib.hid (K_f.out.keep B_w9)
    replace K_x := Lib.hid (K_x.out.keep B_w9)
    replace K_t := Lib.hid (K_t.out.keep B_w9)
    replace K_g := Lib.hid (K_g.out.keep B_w9)
    replace HB := Lib.hid (below_next HB.out B_w9)
    have K_o := Lib.hid K_o0
    clear hb9 B_w9 K_o0
    clear cK_c_0 cK_c_1 zK_c cK_f_0 cK_f_1 zK_f cK_x_0 cK_x_1 zK_x cK_t_0 cK_t_1 cK_t_2 zK_t cK_g_0 cK_g_1 zK_g
    have cK_c_0 := K_c.out.cell 0
    have cK_c_1 := K_c.out.cell 1
    simp at cK_c_0 cK_c_1
    have zK_c := K_c.out.lt
    have cK_f_0 := K_f.out.cell 0
    have cK_f_1 := K_f.out.cell 1
    simp at cK_f_0 cK_f_1
    have zK_f := K_f.out.lt
    have cK_x_0 := K_x.out.cell 0
    have cK_x_1 := K_x.out.cell 1
    simp at cK_x_0 cK_x_1
    have zK_x := K_x.out.lt
    have cK_t_0 := K_t.out.cell 0
    have cK_t_1 := K_t.out.cell 1
    have cK_t_2 := K_t.out.cell 2
    simp at cK_t_0 cK_t_1 cK_t_2
    have zK_t := K_t.out.lt
    have cK_g_0 := K_g.out.cell 0
    have cK_g_1 := K_g.out.cell 1
    simp at cK_g_0 cK_g_1
    have zK_g := K_g.out.lt
    have cK_o_0 := K_o.out.cell 0
    have cK_o_1 := K_o.out.cell 1
    simp at cK_o_0 cK_o_1
    have zK_o := K_o.out.lt
    go_wp2_with fail
    go_ret
    exact ⟨rfl, HB.out⟩
  · have d1 : (r1 != 0) = true := by simpa using hr1
    go_enter Try.func9, Try.ntmps9
    go_wp2_with fail
    refine (heavy_any _ _ _ _ _ hn63 _ hhv).mono ?_
    rintro e w1 ⟨rfl, hb1⟩
    obtain ⟨K_c0, B_w1, l_w1⟩ := blk1 hb1
    replace G := Lib.hid (G.out.keep B_w1)
    replace I := Lib.hid (I.out.keep B_w1)
    have HB := Lib.hid B_w1
    have K_c := Lib.hid K_c0
    clear hb1 B_w1 K_c0
    have cK_c_0 := K_c.out.cell 0
    have cK_c_1 := K_c.out.cell 1
    simp at cK_c_0 cK_c_1
    have zK_c := K_c.out.lt
    go_wp2_with fail
    refine (levels_wrong _ _ _ _ _ _ xss l vars _ G.out hv I.out r1 r2 hr hr1).mono ?_
    rintro e w2 ⟨rfl, hb2⟩
    have B_w2 := hb2
    replace G := Lib.hid (G.out.keep B_w2)
    replace I := Lib.hid (I.out.keep B_w2)
    replace K_c := Lib.hid (K_c.out.keep B_w2)
    replace HB := Lib.hid (below_next HB.out B_w2)
    clear hb2 B_w2
    clear cK_c_0 cK_c_1 zK_c
    have cK_c_0 := K_c.out.cell 0
    have cK_c_1 := K_c.out.cell 1
    simp at cK_c_0 cK_c_1
    have zK_c := K_c.out.lt
    go_wp2_with fail
    refine (beside_any _ _ _ _ _ _ xss l vars _ (G.out.keep (below_new _ _)) hv (I.out.keep (below_new _ _)) _ _ hr).mono ?_
    rintro e w3 ⟨rfl, hb3⟩
    obtain ⟨K_f0, B_w3, l_w3⟩ := blk1 hb3
    replace G := Lib.hid (G.out.keep B_w3)
    replace I := Lib.hid (I.out.keep B_w3)
    replace K_c := Lib.hid (K_c.out.keep B_w3)
    replace HB := Lib.hid (below_next HB.out B_w3)
    have K_f := Lib.hid K_f0
    clear hb3 B_w3 K_f0
    clear cK_c_0 cK_c_1 zK_c
    have cK_c_0 := K_c.out.cell 0
    have cK_c_1 := K_c.out.cell 1
    simp at cK_c_0 cK_c_1
    have zK_c := K_c.out.lt
    have cK_f_0 := K_f.out.cell 0
    have cK_f_1 := K_f.out.cell 1
    simp at cK_f_0 cK_f_1
    have zK_f := K_f.out.lt
    go_wp2_with fail
    go_ret
    exact ⟨rfl, below_next HB.out (below_new _ _)⟩
end Go.Proofs.Ytghebbkpdldjfaa
