/- The walk of ElimBlocks: it returns true. (Printed by wip/tools/elimblocks.py.) -/
import Derived.Test.YtecgmgidfjbamaaBlkPlain
import Derived.Test.YtecgmgidfjbamaaHeavy
import Derived.Test.YtecgmgidfjbamaaHolds
import Derived.Test.YtecgmgidfjbamaaTail
namespace Go.Proofs.Ytecgmgidfjbamaa
open Go.RowKit
set_option linter.unusedSimpArgs false

set_option maxHeartbeats 8000000 in
set_option maxRecDepth 100000 in
theorem elimBlocks_walk {vars i : Int} {A : Option Addr} {n c : Nat} {xss : List (List Int)} (w : World) (hv : I64 vars) (h : Grid w A n c xss) (hi64 : I64 i) :
    Calls Try.prog 3 #[.agg #[.int .i64 vars, .slice A n c], .int .i64 i] w fun e w' => e = .returned (.bool true) ∧ Below w.heap.size w w' := by
  have hbd := h.bd
  have hlen := Lib.hid h.len
  have G := Lib.hid h
  have hn63 : n ≤ 9223372036854775807 := by omega
  obtain ⟨i0, hi0, hz0, hz1, hz2⟩ := info_parts int_info
  obtain ⟨hvy, hhv⟩ : ∃ r, Hid ((decide (40 < vars) || decide (60 < (n : Int))) = r) := ⟨_, rfl⟩
  obtain ⟨r1, r2, hr⟩ : ∃ r1 r2, Hid (checkC vars xss = (r1, r2)) := ⟨_, _, rfl⟩
  have _h6 := hi64
  clear h
  cases hvy
  rotate_left
  · go_enter Try.func3, Try.ntmps3
    go_wp2_with fail
    refine (heavy_any _ _ _ _ _ hn63 _ hhv).mono ?_
    rintro e w1 ⟨rfl, hb1⟩
    obtain ⟨K_c0, B_w1, l_w1⟩ := blk1 hb1
    replace G := Lib.hid (G.out.keep B_w1)
    have HB := Lib.hid B_w1
    have K_c := Lib.hid K_c0
    clear hb1 B_w1 K_c0
    have cK_c_0 := K_c.out.cell 0
    have cK_c_1 := K_c.out.cell 1
    simp at cK_c_0 cK_c_1
    have zK_c := K_c.out.lt
    go_wp2_with fail
    go_ret
    exact ⟨rfl, HB.out⟩
  by_cases hr1 : r1 = 0
  · subst hr1
    obtain ⟨hr0, v0, v1, hn400, hrows⟩ := checkC_ok (vars := vars) (xss := xss) (by rw [hr.out])
    obtain rfl : r2 = 0 := by rw [hr.out] at hr0; simpa using hr0
    have v6 : vars ≤ 1000000 := by omega
    have HC : Hid (∀ x ∈ xss, Lits vars x) := fun x hx => (hrows x hx).2
    have HW24 : Hid (∀ x ∈ xss, x.length ≤ 24) := fun x hx => (hrows x hx).1
    clear hr0 hrows hn400
    by_cases hneg : i < 0
    · have dn : decide (i < 0) = true := decide_eq_true hneg
      have hout : i < 0 ∨ (n : Int) ≤ i := .inl hneg
      go_enter Try.func3, Try.ntmps3
      go_wp2_with fail
      refine (heavy_any _ _ _ _ _ hn63 _ hhv).mono ?_
      rintro e w1 ⟨rfl, hb1⟩
      obtain ⟨K_c0, B_w1, l_w1⟩ := blk1 hb1
      replace G := Lib.hid (G.out.keep B_w1)
      have HB := Lib.hid B_w1
      have K_c := Lib.hid K_c0
      clear hb1 B_w1 K_c0
      have cK_c_0 := K_c.out.cell 0
      have cK_c_1 := K_c.out.cell 1
      simp at cK_c_0 cK_c_1
      have zK_c := K_c.out.lt
      go_wp2_with fail
      refine (blocked_out _ _ _ xss vars i _ G.out hv hr hout).mono ?_
      rintro e w2 ⟨rfl, hb2⟩
      have B_w2 := hb2
      replace G := Lib.hid (G.out.keep B_w2)
      replace K_c := Lib.hid (K_c.out.keep B_w2)
      replace HB := Lib.hid (below_next HB.out B_w2)
      clear hb2 B_w2
      clear cK_c_0 cK_c_1 zK_c
      have cK_c_0 := K_c.out.cell 0
      have cK_c_1 := K_c.out.cell 1
      simp at cK_c_0 cK_c_1
      have zK_c := K_c.out.lt
      go_wp2_with fail
      refine (check_ref _ _ _ xss vars _ (G.out.keep (below_new _ _)) hv _ _ hr).mono ?_
      rintro e w3 ⟨rfl, hb3⟩
      obtain ⟨K_f0, B_w3, l_w3⟩ := blk1 hb3
      replace G := Lib.hid (G.out.keep B_w3)
      replace K_c := Lib.hid (K_c.out.keep B_w3)
      replace HB := Lib.hid (below_next HB.out B_w3)
      have K_f := Lib.hid K_f0
      clear hb3 B_w3 K_f0
      clear cK_c_0 cK_c_1 zK_c
      have cK_c_0 := K_c.out.cell 0
      have cK_c_1 := K_c.out.cell 1
      simp at cK_c_0 cK_c_1
      have zK_c := K_c.out.lt
      have cK_f_0 := K_f.out.cell 0
      have cK_f_1 := K_f.out.cell 1
      simp at cK_f_0 cK_f_1
      have zK_f := K_f.out.lt
      go_wp2_with fail
      refine (pair_any _).mono ?_
      rintro e w4 ⟨A5, n5, c5, rfl, hG5, hb4⟩
      obtain ⟨K_x0, B_w4, l_w4⟩ := blk1 hb4
      replace G := Lib.hid (G.out.keep B_w4)
      replace K_c := Lib.hid (K_c.out.keep B_w4)
      replace K_f := Lib.hid (K_f.out.keep B_w4)
      replace HB := Lib.hid (below_next HB.out B_w4)
      have K_x := Lib.hid K_x0
      clear hb4 B_w4 K_x0
      clear cK_c_0 cK_c_1 zK_c cK_f_0 cK_f_1 zK_f
      have cK_c_0 := K_c.out.cell 0
      have cK_c_1 := K_c.out.cell 1
      simp at cK_c_0 cK_c_1
      have zK_c := K_c.out.lt
      have cK_f_0 := K_f.out.cell 0
      have cK_f_1 := K_f.out.cell 1
      simp at cK_f_0 cK_f_1
      have zK_f := K_f.out.lt
      have cK_x_0 := K_x.out.cell 0
      have cK_x_1 := K_x.out.cell 1
      simp at cK_x_0 cK_x_1
      have zK_x := K_x.out.lt
      have GP := Lib.hid hG5
      clear hG5
      go_wp2_with fail
      refine (blocked_own _ _ _ 0 [[1, 2], [-1]] [1, 2] 2 _ GP.out ⟨by omega, by omega⟩ (by show _ = _; decide) rfl).mono ?_
      rintro e w5 ⟨L5, n5', c5', rfl, hI5, hb5⟩
      have B_w5 := hb5
      replace G := Lib.hid (G.out.keep B_w5)
      replace GP := Lib.hid (GP.out.keep B_w5)
      replace K_c := Lib.hid (K_c.out.keep B_w5)
      replace K_f := Lib.hid (K_f.out.keep B_w5)
      replace K_x := Lib.hid (K_x.out.keep B_w5)
      replace HB := Lib.hid (below_next HB.out B_w5)
      clear hb5 B_w5
      clear cK_c_0 cK_c_1 zK_c cK_f_0 cK_f_1 zK_f cK_x_0 cK_x_1 zK_x
      have cK_c_0 := K_c.out.cell 0
      have cK_c_1 := K_c.out.cell 1
      simp at cK_c_0 cK_c_1
      have zK_c := K_c.out.lt
      have cK_f_0 := K_f.out.cell 0
      have cK_f_1 := K_f.out.cell 1
      simp at cK_f_0 cK_f_1
      have zK_f := K_f.out.lt
      have cK_x_0 := K_x.out.cell 0
      have cK_x_1 := K_x.out.cell 1
      simp at cK_x_0 cK_x_1
      have zK_x := K_x.out.lt
      have IO : Hid (Ints w5 L5 n5' c5' [2]) := hI5
      clear hI5
      go_wp2_with fail
      refine (same_any _ _ _ _ _ _ [2] [2] _ (IO.out.keep (below_alloc (below_new _ _) _)) (ints_made _ 3 [2] (by simp) (by simp [I64]) (by decide)) true (by show _ = _; rfl)).mono ?_
      rintro e w6 hq6
      obtain ⟨rfl, hb6⟩ := hq6.v
      clear hq6
      obtain ⟨K_g0, K_o0, B_w6, l_w6⟩ := two_blks hb6
      replace G := Lib.hid (G.out.keep B_w6)
      replace GP := Lib.hid (GP.out.keep B_w6)
      replace IO := Lib.hid (IO.out.keep B_w6)
      replace K_c := Lib.hid (K_c.out.keep B_w6)
      replace K_f := Lib.hid (K_f.out.keep B_w6)
      replace K_x := Lib.hid (K_x.out.keep B_w6)
      replace HB := Lib.hid (below_next HB.out B_w6)
      have K_g := Lib.hid K_g0
      have K_o := Lib.hid K_o0
      clear hb6 B_w6 K_g0 K_o0
      clear cK_c_0 cK_c_1 zK_c cK_f_0 cK_f_1 zK_f cK_x_0 cK_x_1 zK_x
      have cK_c_0 := K_c.out.cell 0
      have cK_c_1 := K_c.out.cell 1
      simp at cK_c_0 cK_c_1
      have zK_c := K_c.out.lt
      have cK_f_0 := K_f.out.cell 0
      have cK_f_1 := K_f.out.cell 1
      simp at cK_f_0 cK_f_1
      have zK_f := K_f.out.lt
      have cK_x_0 := K_x.out.cell 0
      have cK_x_1 := K_x.out.cell 1
      simp at cK_x_0 cK_x_1
      have zK_x := K_x.out.lt
      have cK_g_0 := K_g.out.cell 0
      have cK_g_1 := K_g.out.cell 1
      simp at cK_g_0 cK_g_1
      have zK_g := K_g.out.lt
      have cK_o_0 := K_o.out.cell 0
      simp at cK_o_0
      have zK_o := K_o.out.lt
      go_wp2_with fail
      go_ret
      exact ⟨rfl, HB.out⟩
    · have dn : decide (i < 0) = false := decide_eq_false hneg
      by_cases hge : (n : Int) ≤ i
      · have dg : decide ((n : Int) ≤ i) = true := decide_eq_true hge
        have hout : i < 0 ∨ (n : Int) ≤ i := .inr hge
        go_enter Try.func3, Try.ntmps3
        go_wp2_with fail
        refine (heavy_any _ _ _ _ _ hn63 _ hhv).mono ?_
        rintro e w1 ⟨rfl, hb1⟩
        obtain ⟨K_c0, B_w1, l_w1⟩ := blk1 hb1
        replace G := Lib.hid (G.out.keep B_w1)
        have HB := Lib.hid B_w1
        have K_c := Lib.hid K_c0
        clear hb1 B_w1 K_c0
        have cK_c_0 := K_c.out.cell 0
        have cK_c_1 := K_c.out.cell 1
        simp at cK_c_0 cK_c_1
        have zK_c := K_c.out.lt
        go_wp2_with fail
        refine (blocked_out _ _ _ xss vars i _ G.out hv hr hout).mono ?_
        rintro e w2 ⟨rfl, hb2⟩
        have B_w2 := hb2
        replace G := Lib.hid (G.out.keep B_w2)
        replace K_c := Lib.hid (K_c.out.keep B_w2)
        replace HB := Lib.hid (below_next HB.out B_w2)
        clear hb2 B_w2
        clear cK_c_0 cK_c_1 zK_c
        have cK_c_0 := K_c.out.cell 0
        have cK_c_1 := K_c.out.cell 1
        simp at cK_c_0 cK_c_1
        have zK_c := K_c.out.lt
        go_wp2_with fail
        refine (check_ref _ _ _ xss vars _ (G.out.keep (below_new _ _)) hv _ _ hr).mono ?_
        rintro e w3 ⟨rfl, hb3⟩
        obtain ⟨K_f0, B_w3, l_w3⟩ := blk1 hb3
        replace G := Lib.hid (G.out.keep B_w3)
        replace K_c := Lib.hid (K_c.out.keep B_w3)
        replace HB := Lib.hid (below_next HB.out B_w3)
        have K_f := Lib.hid K_f0
        clear hb3 B_w3 K_f0
        clear cK_c_0 cK_c_1 zK_c
        have cK_c_0 := K_c.out.cell 0
        have cK_c_1 := K_c.out.cell 1
        simp at cK_c_0 cK_c_1
        have zK_c := K_c.out.lt
        have cK_f_0 := K_f.out.cell 0
        have cK_f_1 := K_f.out.cell 1
        simp at cK_f_0 cK_f_1
        have zK_f := K_f.out.lt
        go_wp2_with fail
        refine (pair_any _).mono ?_
        rintro e w4 ⟨A5, n5, c5, rfl, hG5, hb4⟩
        obtain ⟨K_x0, B_w4, l_w4⟩ := blk1 hb4
        replace G := Lib.hid (G.out.keep B_w4)
        replace K_c := Lib.hid (K_c.out.keep B_w4)
        replace K_f := Lib.hid (K_f.out.keep B_w4)
        replace HB := Lib.hid (below_next HB.out B_w4)
        have K_x := Lib.hid K_x0
        clear hb4 B_w4 K_x0
        clear cK_c_0 cK_c_1 zK_c cK_f_0 cK_f_1 zK_f
        have cK_c_0 := K_c.out.cell 0
        have cK_c_1 := K_c.out.cell 1
        simp at cK_c_0 cK_c_1
        have zK_c := K_c.out.lt
        have cK_f_0 := K_f.out.cell 0
        have cK_f_1 := K_f.out.cell 1
        simp at cK_f_0 cK_f_1
        have zK_f := K_f.out.lt
        have cK_x_0 := K_x.out.cell 0
        have cK_x_1 := K_x.out.cell 1
        simp at cK_x_0 cK_x_1
        have zK_x := K_x.out.lt
        have GP := Lib.hid hG5
        clear hG5
        go_wp2_with fail
        refine (blocked_own _ _ _ 0 [[1, 2], [-1]] [1, 2] 2 _ GP.out ⟨by omega, by omega⟩ (by show _ = _; decide) rfl).mono ?_
        rintro e w5 ⟨L5, n5', c5', rfl, hI5, hb5⟩
        have B_w5 := hb5
        replace G := Lib.hid (G.out.keep B_w5)
        replace GP := Lib.hid (GP.out.keep B_w5)
        replace K_c := Lib.hid (K_c.out.keep B_w5)
        replace K_f := Lib.hid (K_f.out.keep B_w5)
        replace K_x := Lib.hid (K_x.out.keep B_w5)
        replace HB := Lib.hid (below_next HB.out B_w5)
        clear hb5 B_w5
        clear cK_c_0 cK_c_1 zK_c cK_f_0 cK_f_1 zK_f cK_x_0 cK_x_1 zK_x
        have cK_c_0 := K_c.out.cell 0
        have cK_c_1 := K_c.out.cell 1
        simp at cK_c_0 cK_c_1
        have zK_c := K_c.out.lt
        have cK_f_0 := K_f.out.cell 0
        have cK_f_1 := K_f.out.cell 1
        simp at cK_f_0 cK_f_1
        have zK_f := K_f.out.lt
        have cK_x_0 := K_x.out.cell 0
        have cK_x_1 := K_x.out.cell 1
        simp at cK_x_0 cK_x_1
        have zK_x := K_x.out.lt
        have IO : Hid (Ints w5 L5 n5' c5' [2]) := hI5
        clear hI5
        go_wp2_with fail
        refine (same_any _ _ _ _ _ _ [2] [2] _ (IO.out.keep (below_alloc (below_new _ _) _)) (ints_made _ 3 [2] (by simp) (by simp [I64]) (by decide)) true (by show _ = _; rfl)).mono ?_
        rintro e w6 hq6
        obtain ⟨rfl, hb6⟩ := hq6.v
        clear hq6
        obtain ⟨K_g0, K_o0, B_w6, l_w6⟩ := two_blks hb6
        replace G := Lib.hid (G.out.keep B_w6)
        replace GP := Lib.hid (GP.out.keep B_w6)
        replace IO := Lib.hid (IO.out.keep B_w6)
        replace K_c := Lib.hid (K_c.out.keep B_w6)
        replace K_f := Lib.hid (K_f.out.keep B_w6)
        replace K_x := Lib.hid (K_x.out.keep B_w6)
        replace HB := Lib.hid (below_next HB.out B_w6)
        have K_g := Lib.hid K_g0
        have K_o := Lib.hid K_o0
        clear hb6 B_w6 K_g0 K_o0
        clear cK_c_0 cK_c_1 zK_c cK_f_0 cK_f_1 zK_f cK_x_0 cK_x_1 zK_x
        have cK_c_0 := K_c.out.cell 0
        have cK_c_1 := K_c.out.cell 1
        simp at cK_c_0 cK_c_1
        have zK_c := K_c.out.lt
        have cK_f_0 := K_f.out.cell 0
        have cK_f_1 := K_f.out.cell 1
        simp at cK_f_0 cK_f_1
        have zK_f := K_f.out.lt
        have cK_x_0 := K_x.out.cell 0
        have cK_x_1 := K_x.out.cell 1
        simp at cK_x_0 cK_x_1
        have zK_x := K_x.out.lt
        have cK_g_0 := K_g.out.cell 0
        have cK_g_1 := K_g.out.cell 1
        simp at cK_g_0 cK_g_1
        have zK_g := K_g.out.lt
        have cK_o_0 := K_o.out.cell 0
        simp at cK_o_0
        have zK_o := K_o.out.lt
        go_wp2_with fail
        go_ret
        exact ⟨rfl, HB.out⟩
      · obtain ⟨k, rfl⟩ : ∃ k : Nat, i = k := ⟨i.toNat, by omega⟩
        have hin : k < n := by omega
        obtain ⟨ci, hci⟩ : ∃ ci, Hid (xss[k]? = some ci) := ⟨xss[k]'(by rw [hlen.out]; exact hin), List.getElem?_eq_getElem _⟩
        have hcm := List.mem_of_getElem? hci.out
        have hcl : ci.length ≤ 24 := HW24.out ci hcm
        have HCB : Hid (∀ y ∈ ci, -1000000 ≤ y ∧ y ≤ 1000000) := fun y hy => by have := (HC.out ci hcm).1 y hy; omega
        have HBLK : Hid ((sortF ci).filter (fun l => xss.all (fun x => codeF (sortF ci) x l != 0)) = blkF xss ci) := (blkF_code (HC.out ci hcm) HC.out).symm
        have dge : decide ((n : Int) ≤ (k : Int)) = false := decide_eq_false (by omega)
        have dge2 : decide (n ≤ k) = false := decide_eq_false (by omega)
        have yi0 : (0 : Int) ≤ (k : Int) := by omega
        have yi1 : (k : Int) < (n : Int) := by omega
        clear hcm
        go_enter Try.func3, Try.ntmps3
        go_wp2_with fail
        refine (heavy_any _ _ _ _ _ hn63 _ hhv).mono ?_
        rintro e w1 ⟨rfl, hb1⟩
        obtain ⟨K_c0, B_w1, l_w1⟩ := blk1 hb1
        replace G := Lib.hid (G.out.keep B_w1)
        have HB := Lib.hid B_w1
        have K_c := Lib.hid K_c0
        clear hb1 B_w1 K_c0
        have cK_c_0 := K_c.out.cell 0
        have cK_c_1 := K_c.out.cell 1
        simp at cK_c_0 cK_c_1
        have zK_c := K_c.out.lt
        go_wp2_with fail
        refine (blocked_own _ _ _ k xss ci vars _ G.out hv hr hci).mono ?_
        rintro e w2 ⟨L, nL, cL, rfl, hI2, hb2⟩
        have B_w2 := hb2
        replace G := Lib.hid (G.out.keep B_w2)
        replace K_c := Lib.hid (K_c.out.keep B_w2)
        replace HB := Lib.hid (below_next HB.out B_w2)
        clear hb2 B_w2
        clear cK_c_0 cK_c_1 zK_c
        have cK_c_0 := K_c.out.cell 0
        have cK_c_1 := K_c.out.cell 1
        simp at cK_c_0 cK_c_1
        have zK_c := K_c.out.lt
        have IL := Lib.hid hI2
        clear hI2
        go_wp2_with fail
        refine (check_ref _ _ _ xss vars _ (G.out.keep (below_new _ _)) hv _ _ hr).mono ?_
        rintro e w3 ⟨rfl, hb3⟩
        obtain ⟨K_f0, B_w3, l_w3⟩ := blk1 hb3
        replace G := Lib.hid (G.out.keep B_w3)
        replace IL := Lib.hid (IL.out.keep B_w3)
        replace K_c := Lib.hid (K_c.out.keep B_w3)
        replace HB := Lib.hid (below_next HB.out B_w3)
        have K_f := Lib.hid K_f0
        clear hb3 B_w3 K_f0
        clear cK_c_0 cK_c_1 zK_c
        have cK_c_0 := K_c.out.cell 0
        have cK_c_1 := K_c.out.cell 1
        simp at cK_c_0 cK_c_1
        have zK_c := K_c.out.lt
        have cK_f_0 := K_f.out.cell 0
        have cK_f_1 := K_f.out.cell 1
        simp at cK_f_0 cK_f_1
        have zK_f := K_f.out.lt
        go_wp2_with fail
        refine (pair_any _).mono ?_
        rintro e w4 ⟨A5, n5, c5, rfl, hG5, hb4⟩
        obtain ⟨K_x0, B_w4, l_w4⟩ := blk1 hb4
        replace G := Lib.hid (G.out.keep B_w4)
        replace IL := Lib.hid (IL.out.keep B_w4)
        replace K_c := Lib.hid (K_c.out.keep B_w4)
        replace K_f := Lib.hid (K_f.out.keep B_w4)
        replace HB := Lib.hid (below_next HB.out B_w4)
        have K_x := Lib.hid K_x0
        clear hb4 B_w4 K_x0
        clear cK_c_0 cK_c_1 zK_c cK_f_0 cK_f_1 zK_f
        have cK_c_0 := K_c.out.cell 0
        have cK_c_1 := K_c.out.cell 1
        simp at cK_c_0 cK_c_1
        have zK_c := K_c.out.lt
        have cK_f_0 := K_f.out.cell 0
        have cK_f_1 := K_f.out.cell 1
        simp at cK_f_0 cK_f_1
        have zK_f := K_f.out.lt
        have cK_x_0 := K_x.out.cell 0
        have cK_x_1 := K_x.out.cell 1
        simp at cK_x_0 cK_x_1
        have zK_x := K_x.out.lt
        have GP := Lib.hid hG5
        clear hG5
        go_wp2_with fail
        refine (blocked_own _ _ _ 0 [[1, 2], [-1]] [1, 2] 2 _ GP.out ⟨by omega, by omega⟩ (by show _ = _; decide) rfl).mono ?_
        rintro e w5 ⟨L5, n5', c5', rfl, hI5, hb5⟩
        have B_w5 := hb5
        replace G := Lib.hid (G.out.keep B_w5)
        replace IL := Lib.hid (IL.out.keep B_w5)
        replace GP := Lib.hid (GP.out.keep B_w5)
        replace K_c := Lib.hid (K_c.out.keep B_w5)
        replace K_f := Lib.hid (K_f.out.keep B_w5)
        replace K_x := Lib.hid (K_x.out.keep B_w5)
        replace HB := Lib.hid (below_next HB.out B_w5)
        clear hb5 B_w5
        clear cK_c_0 cK_c_1 zK_c cK_f_0 cK_f_1 zK_f cK_x_0 cK_x_1 zK_x
        have cK_c_0 := K_c.out.cell 0
        have cK_c_1 := K_c.out.cell 1
        simp at cK_c_0 cK_c_1
        have zK_c := K_c.out.lt
        have cK_f_0 := K_f.out.cell 0
        have cK_f_1 := K_f.out.cell 1
        simp at cK_f_0 cK_f_1
        have zK_f := K_f.out.lt
        have cK_x_0 := K_x.out.cell 0
        have cK_x_1 := K_x.out.cell 1
        simp at cK_x_0 cK_x_1
        have zK_x := K_x.out.lt
        have IO : Hid (Ints w5 L5 n5' c5' [2]) := hI5
        clear hI5
        go_wp2_with fail
        refine (same_any _ _ _ _ _ _ [2] [2] _ (IO.out.keep (below_alloc (below_new _ _) _)) (ints_made _ 3 [2] (by simp) (by simp [I64]) (by decide)) true (by show _ = _; rfl)).mono ?_
        rintro e w6 hq6
        obtain ⟨rfl, hb6⟩ := hq6.v
        clear hq6
        obtain ⟨K_g0, K_o0, B_w6, l_w6⟩ := two_blks hb6
        replace G := Lib.hid (G.out.keep B_w6)
        replace IL := Lib.hid (IL.out.keep B_w6)
        replace GP := Lib.hid (GP.out.keep B_w6)
        replace IO := Lib.hid (IO.out.keep B_w6)
        replace K_c := Lib.hid (K_c.out.keep B_w6)
        replace K_f := Lib.hid (K_f.out.keep B_w6)
        replace K_x := Lib.hid (K_x.out.keep B_w6)
        replace HB := Lib.hid (below_next HB.out B_w6)
        have K_g := Lib.hid K_g0
        have K_o := Lib.hid K_o0
        clear hb6 B_w6 K_g0 K_o0
        clear cK_c_0 cK_c_1 zK_c cK_f_0 cK_f_1 zK_f cK_x_0 cK_x_1 zK_x
        have cK_c_0 := K_c.out.cell 0
        have cK_c_1 := K_c.out.cell 1
        simp at cK_c_0 cK_c_1
        have zK_c := K_c.out.lt
        have cK_f_0 := K_f.out.cell 0
        have cK_f_1 := K_f.out.cell 1
        simp at cK_f_0 cK_f_1
        have zK_f := K_f.out.lt
        have cK_x_0 := K_x.out.cell 0
        have cK_x_1 := K_x.out.cell 1
        simp at cK_x_0 cK_x_1
        have zK_x := K_x.out.lt
        have cK_g_0 := K_g.out.cell 0
        have cK_g_1 := K_g.out.cell 1
        simp at cK_g_0 cK_g_1
        have zK_g := K_g.out.lt
        have cK_o_0 := K_o.out.cell 0
        simp at cK_o_0
        have zK_o := K_o.out.lt
        obtain ⟨b0, off, A', n', c', xs', hAe, hb, hcell, hi', hxs⟩ := G.out.round hin
        subst hAe
        obtain rfl : xs' = ci := by have := hxs.out; rw [hci.out] at this; cases this; rfl
        have HI := Lib.hid hi'
        have hn6 : n' ≤ 1000000 := by have := hi'.len; omega
        clear hxs hi'
        go_wp2_with fail
        refine (sorted_ref _ _ _ xs' _ HI.out HCB.out hn6).mono ?_
        rintro e w7 ⟨L7, n7, c7, rfl, hown7, hb7⟩
        have B_w7 := hb7
        replace G := Lib.hid (G.out.keep B_w7)
        replace IL := Lib.hid (IL.out.keep B_w7)
        replace GP := Lib.hid (GP.out.keep B_w7)
        replace IO := Lib.hid (IO.out.keep B_w7)
        replace K_c := Lib.hid (K_c.out.keep B_w7)
        replace K_f := Lib.hid (K_f.out.keep B_w7)
        replace K_x := Lib.hid (K_x.out.keep B_w7)
        replace K_g := Lib.hid (K_g.out.keep B_w7)
        replace K_o := Lib.hid (K_o.out.keep B_w7)
        replace HB := Lib.hid (below_next HB.out B_w7)
        clear hb7 B_w7
        clear cK_c_0 cK_c_1 zK_c cK_f_0 cK_f_1 zK_f cK_x_0 cK_x_1 zK_x cK_g_0 cK_g_1 zK_g cK_o_0 zK_o
        have cK_c_0 := K_c.out.cell 0
        have cK_c_1 := K_c.out.cell 1
        simp at cK_c_0 cK_c_1
        have zK_c := K_c.out.lt
        have cK_f_0 := K_f.out.cell 0
        have cK_f_1 := K_f.out.cell 1
        simp at cK_f_0 cK_f_1
        have zK_f := K_f.out.lt
        have cK_x_0 := K_x.out.cell 0
        have cK_x_1 := K_x.out.cell 1
        simp at cK_x_0 cK_x_1
        have zK_x := K_x.out.lt
        have cK_g_0 := K_g.out.cell 0
        have cK_g_1 := K_g.out.cell 1
        simp at cK_g_0 cK_g_1
        have zK_g := K_g.out.lt
        have cK_o_0 := K_o.out.cell 0
        simp at cK_o_0
        have zK_o := K_o.out.lt
        have OI := Lib.hid (hown7.ints (fun z hz => (by have := HCB.out z (sortF_mem.1 hz); unfold I64; omega)))
        have hn7 : n7 ≤ 24 := by have h1 := hown7.len; rw [List.length_map, sortF_len] at h1; omega
        have hl7 := Lib.hid OI.out.len
        have hbd7 := OI.out.bd
        have HOB : Hid (∀ y ∈ sortF xs', -1000000 ≤ y ∧ y ≤ 1000000) := fun y hy => HCB.out y (sortF_mem.1 hy)
        clear hown7 hcell HI
        go_wp2_with fail
        go_loopw [10, 12] (fun o i wr => ∃ (p nl cl : Nat) (Lf : Option Addr) (ys : List Int), p ≤ n7 ∧ nl ≤ p ∧ o = .slice Lf nl cl ∧ i = .int .i64 p ∧ Hid (Below w7.heap.size w7 wr) ∧ Hid (Own 3 wr w7.heap.size Lf nl cl (ys.map (Value.int .i64))) ∧ Hid (∀ y ∈ ys, I64 y) ∧ Hid (ys ++ ((sortF xs').drop p).filter (fun l => xss.all (fun x => codeF (sortF xs') x l != 0)) = blkF xss xs')) (fun _ i _ => n7 - (intOf i).toNat)
        case atStart => exact ⟨0, 0, 0, none, [], Nat.zero_le _, Nat.le_refl _, rfl, rfl, Below.refl _ _, Own.nil _ _ _, by simp [Hid], HBLK⟩
        case round =>
          obtain ⟨p, nl, cl, Lf, ys, hp, hnl, rfl, rfl, hbl, hown, hys, hdone⟩ := hrel
          have e1 := keepBox hbl.out cK_c_1
          have z1 : w.heap.size < wr.heap.size := (cell_lt e1).1
          have hwz := hbl.out.size
          obtain ⟨wo, hwo⟩ : ∃ wo : World, wo = wr := ⟨_, rfl⟩
          subst hwo
          by_cases hlt : p < n7
          · obtain ⟨b3, off3, l, hLe, hb3, hcell3, l1, l2, hlk⟩ := (OI.out.keep hbl.out).round hlt
            subst hLe
            have hlm := List.mem_of_getElem? hlk.out
            have hlb := HOB.out l hlm
            obtain ⟨q, hq⟩ : ∃ q, Hid (xss.all (fun x => codeF (sortF xs') x l != 0) = q) := ⟨_, rfl⟩
            have hdone2 : Hid (ys ++ ((if q then [l] else []) ++ ((sortF xs').drop (p + 1)).filter (fun l => xss.all (fun x => codeF (sortF xs') x l != 0))) = blkF xss xs') := by
              have := hdone.out
              rw [drop_cons_of hlk.out, List.filter_cons, hq.out] at this
              show _ = _
              cases q <;> simpa using this
            have x1 : (0 : Int) ≤ (p : Int) := by omega
            have x2 : (p : Int) < (n7 : Int) := by omega
            clear hdone hlm
            go_wp2_with fail
            go_loopw [13, 14] (fun bb i wr => ∃ (j : Nat) (bv : Bool), j ≤ n ∧ bb = .bool bv ∧ i = .int .i64 j ∧ Hid (Below wo.heap.size wo wr) ∧ Hid ((bv && (xss.drop j).all (fun x => codeF (sortF xs') x l != 0)) = q)) (fun _ i _ => n - (intOf i).toNat)
            case atStart => exact ⟨0, true, Nat.zero_le _, rfl, rfl, Below.refl _ _, by have := hq.out; simpa [Hid] using this⟩
            case round =>
              obtain ⟨j, bv, hj, rfl, rfl, hbv, hgo⟩ := hrel
              obtain ⟨wv, hwv⟩ : ∃ wv : World, wv = wr := ⟨_, rfl⟩
              subst hwv
              have d1 := keepBox hbv.out e1
              have d3 := keepBox hbv.out hcell3
              have zv : w.heap.size < wv.heap.size := (cell_lt d1).1
              by_cases hjn : j < n
              · obtain ⟨b0', off', X, nx, cx, x, hAe, hb, d2, hx', hxj⟩ := ((G.out.keep hbl.out).keep hbv.out).round hjn
                cases hAe
                have hxm := List.mem_of_getElem? hxj.out
                have HX := Lib.hid hx'
                have hnx : nx ≤ 24 := by have h1 := hx'.len; have h2 := HW24.out x hxm; omega
                have HXB : Hid (∀ y ∈ x, -1000000 ≤ y ∧ y ≤ 1000000) := fun y hy => by have := (HC.out x hxm).1 y hy; omega
                have OIW := Lib.hid ((OI.out.keep hbl.out).keep hbv.out)
                have hgo2 : Hid ((bv && (codeF (sortF xs') x l != 0 && (xss.drop (j + 1)).all (fun x => codeF (sortF xs') x l != 0))) = q) := by have := hgo.out; rw [drop_cons_of hxj.out, List.all_cons] at this; exact this
                obtain ⟨l1', e1', hres1⟩ : ∃ a b, Hid (resF (sortF xs') x l = (a, b)) := ⟨_, _, rfl⟩
                obtain ⟨l2', e2', hres2⟩ : ∃ a b, Hid (resF x (sortF xs') (-l) = (a, b)) := ⟨_, _, rfl⟩
                have y1 : (0 : Int) ≤ (j : Int) := by omega
                have y2 : (j : Int) < (n : Int) := by omega
                clear hgo hx' hxm
                go_wp2_with fail
                have hS : wv.drew.cell? ⟨w.heap.size, 1, none⟩ = some (.slice (some ⟨b0, off, none⟩) n c) ∧ wv.drew.cell? ⟨b0, off + j, none⟩ = some (.slice X nx cx) ∧ wv.drew.cell? ⟨b3, off3 + p, none⟩ = some (.int .i64 l) := ⟨keepBox (below_drewN wv 1) d1, keepBox (below_drewN wv 1) d2, keepBox (below_drewN wv 1) d3⟩
                refine wp_region_tail (fun w' => w'.cell? ⟨w.heap.size, 1, none⟩ = some (.slice (some ⟨b0, off, none⟩) n c) ∧ w'.cell? ⟨b0, off + j, none⟩ = some (.slice X nx cx) ∧ w'.cell? ⟨b3, off3 + p, none⟩ = some (.int .i64 l)) [] (by kernel_rfl) ?_
                refine take0 (i := 0) (oi := _) (v := ?_) rfl (by kernel_rfl) (by kernel_rfl) (by kernel_rfl) (fun _ _ _ h => h) rfl (Or.inl ⟨by rfl, ?_⟩) (fun _ => hS) ?_
                rotate_left
                · intro w0; go_simp; with_reducible rfl
                (try simp only [Act.put, List.setIfInBounds_toArray, List.set_cons_zero, List.set_cons_succ])
                refine take0 (i := 1) (oi := _) (v := ?_) rfl (by kernel_rfl) (by kernel_rfl) (by kernel_rfl) (fun _ _ _ h => h) rfl (Or.inl ⟨by rfl, ?_⟩) (fun _ => hS) ?_
                rotate_left
                · intro w0; go_simp; with_reducible rfl
                (try simp only [Act.put, List.setIfInBounds_toArray, List.set_cons_zero, List.set_cons_succ])
                refine takeS (i := 2) (oi := _) (v := ?_) rfl (by kernel_rfl) (by kernel_rfl) (by kernel_rfl) (fun _ _ _ h => h) rfl (by kernel_rfl) (by kernel_rfl) (Or.inl ⟨by rfl, ?_⟩) hS ?_
                rotate_left
                · intro w0 hSw; (try dsimp only at hSw); go_simp; with_reducible rfl
                (try simp only [Act.put, List.setIfInBounds_toArray, List.set_cons_zero, List.set_cons_succ])
                refine take0 (i := 3) (oi := _) (v := ?_) rfl (by kernel_rfl) (by kernel_rfl) (by kernel_rfl) (fun _ _ _ h => h) rfl (Or.inl ⟨by rfl, ?_⟩) (fun _ => hS) ?_
                rotate_left
                · intro w0; go_simp; with_reducible rfl
                (try simp only [Act.put, List.setIfInBounds_toArray, List.set_cons_zero, List.set_cons_succ])
                refine take0 (i := 4) (oi := _) (v := ?_) rfl (by kernel_rfl) (by kernel_rfl) (by kernel_rfl) (fun _ _ _ h => h) rfl (Or.inl ⟨by rfl, ?_⟩) (fun _ => hS) ?_
                rotate_left
                · intro w0; go_simp; with_reducible rfl
                (try simp only [Act.put, List.setIfInBounds_toArray, List.set_cons_zero, List.set_cons_succ])
                refine takeS (i := 5) (oi := _) (v := ?_) rfl (by kernel_rfl) (by kernel_rfl) (by kernel_rfl) (fun _ _ _ h => h) rfl (by kernel_rfl) (by kernel_rfl) (Or.inl ⟨by rfl, ?_⟩) hS ?_
                rotate_left
                · intro w0 hSw; (try dsimp only at hSw); go_simp; with_reducible rfl
                (try simp only [Act.put, List.setIfInBounds_toArray, List.set_cons_zero, List.set_cons_succ])
                refine take0 (i := 6) (oi := _) (v := ?_) rfl (by kernel_rfl) (by kernel_rfl) (by kernel_rfl) (fun _ _ _ h => h) rfl (Or.inl ⟨by rfl, ?_⟩) (fun _ => hS) ?_
                rotate_left
                · intro w0; go_simp; with_reducible rfl
                (try simp only [Act.put, List.setIfInBounds_toArray, List.set_cons_zero, List.set_cons_succ])
                refine take0 (i := 7) (oi := _) (v := ?_) rfl (by kernel_rfl) (by kernel_rfl) (by kernel_rfl) (fun _ _ _ h => h) rfl (Or.inl ⟨by rfl, ?_⟩) (fun _ => hS) ?_
                rotate_left
                · intro w0; go_simp; with_reducible rfl
                (try simp only [Act.put, List.setIfInBounds_toArray, List.set_cons_zero, List.set_cons_succ])
                refine take0 (i := 8) (oi := _) (v := ?_) rfl (by kernel_rfl) (by kernel_rfl) (by kernel_rfl) (fun _ _ _ h => h) rfl (Or.inl ⟨by rfl, ?_⟩) (fun _ => hS) ?_
                rotate_left
                · intro w0; go_simp; with_reducible rfl
                (try simp only [Act.put, List.setIfInBounds_toArray, List.set_cons_zero, List.set_cons_succ])
                refine takeS (i := 9) (oi := _) (v := ?_) rfl (by kernel_rfl) (by kernel_rfl) (by kernel_rfl) (fun _ _ _ h => h) rfl (by kernel_rfl) (by kernel_rfl) (Or.inl ⟨by rfl, ?_⟩) hS ?_
                rotate_left
                · intro w0 hSw; (try dsimp only at hSw); go_simp; with_reducible rfl
                (try simp only [Act.put, List.setIfInBounds_toArray, List.set_cons_zero, List.set_cons_succ])
                refine oneT (i := 10) (by kernel_rfl) rfl (by rfl) (fun K hK => ?_)
                go_simp
                refine (resolved_ref _ _ _ _ _ _ (sortF xs') x l _ (OIW.out.drewN 1) (HX.out.drewN 1) HOB.out HXB.out (by omega) hlb _ _ hres1).mono ?_
                rintro e w8 ⟨L8, n8, c8, rfl, _, hb8⟩
                have B8 := Lib.hid (below_next (below_drewN wv 1) hb8)
                clear hb8
                have hS : w8.cell? ⟨w.heap.size, 1, none⟩ = some (.slice (some ⟨b0, off, none⟩) n c) ∧ w8.cell? ⟨b0, off + j, none⟩ = some (.slice X nx cx) ∧ w8.cell? ⟨b3, off3 + p, none⟩ = some (.int .i64 l) := ⟨keepBox B8.out d1, keepBox B8.out d2, keepBox B8.out d3⟩
                refine hK _ _ (fun _ => hS) ?_
                clear hK
                (try simp only [Act.put, List.setIfInBounds_toArray, List.set_cons_zero, List.set_cons_succ])
                refine take0 (i := 11) (oi := _) (v := ?_) rfl (by kernel_rfl) (by kernel_rfl) (by kernel_rfl) (fun _ _ _ h => h) rfl (Or.inl ⟨by rfl, ?_⟩) (fun _ => hS) ?_
                rotate_left
                · intro w0; go_simp; with_reducible rfl
                (try simp only [Act.put, List.setIfInBounds_toArray, List.set_cons_zero, List.set_cons_succ])
                refine take0 (i := 12) (oi := _) (v := ?_) rfl (by kernel_rfl) (by kernel_rfl) (by kernel_rfl) (fun _ _ _ h => h) rfl (Or.inl ⟨by rfl, ?_⟩) (fun _ => hS) ?_
                rotate_left
                · intro w0; go_simp; with_reducible rfl
                (try simp only [Act.put, List.setIfInBounds_toArray, List.set_cons_zero, List.set_cons_succ])
                refine take0 (i := 13) (oi := _) (v := ?_) rfl (by kernel_rfl) (by kernel_rfl) (by kernel_rfl) (fun _ _ _ h => h) rfl (Or.inl ⟨by rfl, ?_⟩) (fun _ => hS) ?_
                rotate_left
                · intro w0; go_simp; with_reducible rfl
                (try simp only [Act.put, List.setIfInBounds_toArray, List.set_cons_zero, List.set_cons_succ])
                refine take0 (i := 14) (oi := _) (v := ?_) rfl (by kernel_rfl) (by kernel_rfl) (by kernel_rfl) (fun _ _ _ h => h) rfl (Or.inl ⟨by rfl, ?_⟩) (fun _ => hS) ?_
                rotate_left
                · intro w0; go_simp; with_reducible rfl
                (try simp only [Act.put, List.setIfInBounds_toArray, List.set_cons_zero, List.set_cons_succ])
                refine take0 (i := 15) (oi := _) (v := ?_) rfl (by kernel_rfl) (by kernel_rfl) (by kernel_rfl) (fun _ _ _ h => h) rfl (Or.inl ⟨by rfl, ?_⟩) (fun _ => hS) ?_
                rotate_left
                · intro w0; go_simp; with_reducible rfl
                (try simp only [Act.put, List.setIfInBounds_toArray, List.set_cons_zero, List.set_cons_succ])
                refine doneT (by kernel_rfl) ?_ _
                by_cases hl0 : l < 0
                · have HCODE : Hid (codeF (sortF xs') x l = e2') := by rw [codeF, if_pos hl0, hres2.out]; rfl
                  have zv8 : w.heap.size < w8.heap.size := (cell_lt hS.1).1
                  have f1 := hS.1
                  have f2 := hS.2.1
                  have f3 := hS.2.2
                  go_wp2_with fail
                  have hS : w8.drew.cell? ⟨w.heap.size, 1, none⟩ = some (.slice (some ⟨b0, off, none⟩) n c) ∧ w8.drew.cell? ⟨b0, off + j, none⟩ = some (.slice X nx cx) ∧ w8.drew.cell? ⟨b3, off3 + p, none⟩ = some (.int .i64 l) := ⟨keepBox (below_drewN w8 1) hS.1, keepBox (below_drewN w8 1) hS.2.1, keepBox (below_drewN w8 1) hS.2.2⟩
                  refine wp_region_tail (fun w' => w'.cell? ⟨w.heap.size, 1, none⟩ = some (.slice (some ⟨b0, off, none⟩) n c) ∧ w'.cell? ⟨b0, off + j, none⟩ = some (.slice X nx cx) ∧ w'.cell? ⟨b3, off3 + p, none⟩ = some (.int .i64 l)) [] (by kernel_rfl) ?_
                  refine take0 (i := 0) (oi := _) (v := ?_) rfl (by kernel_rfl) (by kernel_rfl) (by kernel_rfl) (fun _ _ _ h => h) rfl (Or.inl ⟨by rfl, ?_⟩) (fun _ => hS) ?_
                  rotate_left
                  · intro w0; go_simp; with_reducible rfl
                  (try simp only [Act.put, List.setIfInBounds_toArray, List.set_cons_zero, List.set_cons_succ])
                  refine takeS (i := 1) (oi := _) (v := ?_) rfl (by kernel_rfl) (by kernel_rfl) (by kernel_rfl) (fun _ _ _ h => h) rfl (by kernel_rfl) (by kernel_rfl) (Or.inl ⟨by rfl, ?_⟩) hS ?_
                  rotate_left
                  · intro w0 hSw; (try dsimp only at hSw); go_simp; with_reducible rfl
                  (try simp only [Act.put, List.setIfInBounds_toArray, List.set_cons_zero, List.set_cons_succ])
                  refine take0 (i := 2) (oi := _) (v := ?_) rfl (by kernel_rfl) (by kernel_rfl) (by kernel_rfl) (fun _ _ _ h => h) rfl (Or.inl ⟨by rfl, ?_⟩) (fun _ => hS) ?_
                  rotate_left
                  · intro w0; go_simp; with_reducible rfl
                  (try simp only [Act.put, List.setIfInBounds_toArray, List.set_cons_zero, List.set_cons_succ])
                  refine take0 (i := 3) (oi := _) (v := ?_) rfl (by kernel_rfl) (by kernel_rfl) (by kernel_rfl) (fun _ _ _ h => h) rfl (Or.inl ⟨by rfl, ?_⟩) (fun _ => hS) ?_
                  rotate_left
                  · intro w0; go_simp; with_reducible rfl
                  (try simp only [Act.put, List.setIfInBounds_toArray, List.set_cons_zero, List.set_cons_succ])
                  refine takeS (i := 4) (oi := _) (v := ?_) rfl (by kernel_rfl) (by kernel_rfl) (by kernel_rfl) (fun _ _ _ h => h) rfl (by kernel_rfl) (by kernel_rfl) (Or.inl ⟨by rfl, ?_⟩) hS ?_
                  rotate_left
                  · intro w0 hSw; (try dsimp only at hSw); go_simp; with_reducible rfl
                  (try simp only [Act.put, List.setIfInBounds_toArray, List.set_cons_zero, List.set_cons_succ])
                  refine take0 (i := 5) (oi := _) (v := ?_) rfl (by kernel_rfl) (by kernel_rfl) (by kernel_rfl) (fun _ _ _ h => h) rfl (Or.inl ⟨by rfl, ?_⟩) (fun _ => hS) ?_
                  rotate_left
                  · intro w0; go_simp; with_reducible rfl
                  (try simp only [Act.put, List.setIfInBounds_toArray, List.set_cons_zero, List.set_cons_succ])
                  refine take0 (i := 6) (oi := _) (v := ?_) rfl (by kernel_rfl) (by kernel_rfl) (by kernel_rfl) (fun _ _ _ h => h) rfl (Or.inl ⟨by rfl, ?_⟩) (fun _ => hS) ?_
                  rotate_left
                  · intro w0; go_simp; with_reducible rfl
                  (try simp only [Act.put, List.setIfInBounds_toArray, List.set_cons_zero, List.set_cons_succ])
                  refine take0 (i := 7) (oi := _) (v := ?_) rfl (by kernel_rfl) (by kernel_rfl) (by kernel_rfl) (fun _ _ _ h => h) rfl (Or.inl ⟨by rfl, ?_⟩) (fun _ => hS) ?_
                  rotate_left
                  · intro w0; go_simp; with_reducible rfl
                  (try simp only [Act.put, List.setIfInBounds_toArray, List.set_cons_zero, List.set_cons_succ])
                  refine take0 (i := 8) (oi := _) (v := ?_) rfl (by kernel_rfl) (by kernel_rfl) (by kernel_rfl) (fun _ _ _ h => h) rfl (Or.inl ⟨by rfl, ?_⟩) (fun _ => hS) ?_
                  rotate_left
                  · intro w0; go_simp; with_reducible rfl
                  (try simp only [Act.put, List.setIfInBounds_toArray, List.set_cons_zero, List.set_cons_succ])
                  refine takeS (i := 9) (oi := _) (v := ?_) rfl (by kernel_rfl) (by kernel_rfl) (by kernel_rfl) (fun _ _ _ h => h) rfl (by kernel_rfl) (by kernel_rfl) (Or.inl ⟨by rfl, ?_⟩) hS ?_
                  rotate_left
                  · intro w0 hSw; (try dsimp only at hSw); go_simp; with_reducible rfl
                  (try simp only [Act.put, List.setIfInBounds_toArray, List.set_cons_zero, List.set_cons_succ])
                  refine take0 (i := 10) (oi := _) (v := ?_) rfl (by kernel_rfl) (by kernel_rfl) (by kernel_rfl) (fun _ _ _ h => h) rfl (Or.inl ⟨by rfl, ?_⟩) (fun _ => hS) ?_
                  rotate_left
                  · intro w0; go_simp; with_reducible rfl
                  (try simp only [Act.put, List.setIfInBounds_toArray, List.set_cons_zero, List.set_cons_succ])
                  refine oneT (i := 11) (by kernel_rfl) rfl (by rfl) (fun K hK => ?_)
                  go_simp
                  rw [show IntKind.i64.wrap (-l) = -l from IntWalk.i64_in _ (by omega)]
                  refine (resolved_ref _ _ _ _ _ _ x (sortF xs') (-l) _ ((HX.out.keep B8.out).drewN 1) ((OIW.out.keep B8.out).drewN 1) HXB.out HOB.out (by omega) (by omega) _ _ hres2).mono ?_
                  rintro e w9 ⟨L9, n9, c9, rfl, _, hb9⟩
                  have B9 := Lib.hid (below_next B8.out (below_next (below_drewN w8 1) hb9))
                  clear hb9
                  have hS : w9.cell? ⟨w.heap.size, 1, none⟩ = some (.slice (some ⟨b0, off, none⟩) n c) ∧ w9.cell? ⟨b0, off + j, none⟩ = some (.slice X nx cx) ∧ w9.cell? ⟨b3, off3 + p, none⟩ = some (.int .i64 l) := ⟨keepBox B9.out d1, keepBox B9.out d2, keepBox B9.out d3⟩
                  refine hK _ _ (fun _ => hS) ?_
                  clear hK
                  (try simp only [Act.put, List.setIfInBounds_toArray, List.set_cons_zero, List.set_cons_succ])
                  refine take0 (i := 12) (oi := _) (v := ?_) rfl (by kernel_rfl) (by kernel_rfl) (by kernel_rfl) (fun _ _ _ h => h) rfl (Or.inl ⟨by rfl, ?_⟩) (fun _ => hS) ?_
                  rotate_left
                  · intro w0; go_simp; with_reducible rfl
                  (try simp only [Act.put, List.setIfInBounds_toArray, List.set_cons_zero, List.set_cons_succ])
                  refine take0 (i := 13) (oi := _) (v := ?_) rfl (by kernel_rfl) (by kernel_rfl) (by kernel_rfl) (fun _ _ _ h => h) rfl (Or.inl ⟨by rfl, ?_⟩) (fun _ => hS) ?_
                  rotate_left
                  · intro w0; go_simp; with_reducible rfl
                  (try simp only [Act.put, List.setIfInBounds_toArray, List.set_cons_zero, List.set_cons_succ])
                  refine take0 (i := 14) (oi := _) (v := ?_) rfl (by kernel_rfl) (by kernel_rfl) (by kernel_rfl) (fun _ _ _ h => h) rfl (Or.inl ⟨by rfl, ?_⟩) (fun _ => hS) ?_
                  rotate_left
                  · intro w0; go_simp; with_reducible rfl
                  (try simp only [Act.put, List.setIfInBounds_toArray, List.set_cons_zero, List.set_cons_succ])
                  refine take0 (i := 15) (oi := _) (v := ?_) rfl (by kernel_rfl) (by kernel_rfl) (by kernel_rfl) (fun _ _ _ h => h) rfl (Or.inl ⟨by rfl, ?_⟩) (fun _ => hS) ?_
                  rotate_left
                  · intro w0; go_simp; with_reducible rfl
                  (try simp only [Act.put, List.setIfInBounds_toArray, List.set_cons_zero, List.set_cons_succ])
                  refine doneT (by kernel_rfl) ?_ _
                  by_cases hcode : e2' = 0
                  · have dc : (e2' != 0) = false := by simpa using hcode
                    have hnext : Hid ((false && (xss.drop (j + 1)).all (fun x => codeF (sortF xs') x l != 0)) = q) := by have := hgo2.out; rw [HCODE.out, hcode] at this; simpa [Hid] using this
                    cases bv
                    all_goals
                      go_wp2_with fail
                      go_roundw
                      case rel => exact ⟨j + 1, false, by omega, rfl, by go_num, below_next hbv.out B9.out, hnext⟩
                      case measure => simp [intOf]; omega
                  · have dc : (e2' != 0) = true := by simpa using hcode
                    have hnext : Hid ((bv && (xss.drop (j + 1)).all (fun x => codeF (sortF xs') x l != 0)) = q) := by have := hgo2.out; rw [HCODE.out, dc] at this; simpa [Hid] using this
                    cases bv
                    · go_wp2_with fail
                      go_roundw
                      case rel => exact ⟨j + 1, false, by omega, rfl, by go_num, below_next hbv.out B9.out, hnext⟩
                      case measure => simp [intOf]; omega
                    · go_wp2_with fail
                      go_roundw
                      case rel => exact ⟨j + 1, true, by omega, rfl, by go_num, below_next hbv.out B9.out, hnext⟩
                      case measure => simp [intOf]; omega
                · have HCODE : Hid (codeF (sortF xs') x l = e1') := by rw [codeF, if_neg hl0, hres1.out]; rfl
                  have zv8 : w.heap.size < w8.heap.size := (cell_lt hS.1).1
                  have f1 := hS.1
                  have f2 := hS.2.1
                  have f3 := hS.2.2
                  by_cases hcode : e1' = 0
                  · have dc : (e1' != 0) = false := by simpa using hcode
                    have hnext : Hid ((false && (xss.drop (j + 1)).all (fun x => codeF (sortF xs') x l != 0)) = q) := by have := hgo2.out; rw [HCODE.out, hcode] at this; simpa [Hid] using this
                    cases bv
                    all_goals
                      go_wp2_with fail
                      go_roundw
                      case rel => exact ⟨j + 1, false, by omega, rfl, by go_num, below_next hbv.out B8.out, hnext⟩
                      case measure => simp [intOf]; omega
                  · have dc : (e1' != 0) = true := by simpa using hcode
                    have hnext : Hid ((bv && (xss.drop (j + 1)).all (fun x => codeF (sortF xs') x l != 0)) = q) := by have := hgo2.out; rw [HCODE.out, dc] at this; simpa [Hid] using this
                    cases bv
                    · go_wp2_with fail
                      go_roundw
                      case rel => exact ⟨j + 1, false, by omega, rfl, by go_num, below_next hbv.out B8.out, hnext⟩
                      case measure => simp [intOf]; omega
                    · go_wp2_with fail
                      go_roundw
                      case rel => exact ⟨j + 1, true, by omega, rfl, by go_num, below_next hbv.out B8.out, hnext⟩
                      case measure => simp [intOf]; omega
              · have hbq : bv = q := by have := hgo.out; rw [List.drop_of_length_le (by rw [hlen.out]; omega)] at this; simpa using this
                subst hbq
                clear hgo
                have ownv := Lib.hid (hown.out.keep hbv.out)
                have blv := Lib.hid (below_next hbl.out hbv.out)
                have hwv2 := blv.out.size
                cases bv
                · go_wp2_with fail
                  go_roundw
                  case rel => exact ⟨p + 1, nl, cl, Lf, ys, by omega, by omega, rfl, by go_num, blv, ownv, hys, by have := hdone2.out; simpa [Hid] using this⟩
                  case measure => simp [intOf]; omega
                · have hSx := ints_made wv 3 [l] rfl (by simp [I64]; omega) (by simp [maxLen])
                  go_wp2_with (first
                    | (at_builtin
                       refine wpList_append_sl _ rfl (.tmp 126) (.tmp 131) _ rfl w7.heap.size 3 i0 _ 8 Try.underlying26 hi0 hz0 hz1 hz2 rfl Lf nl cl _ rfl (ownv.out.keep (below_new _ _)) (some ⟨wv.heap.size, 0, none⟩) 1 1 _ rfl hSx.sl (ints_one _) (by simp only [maxLen]; omega) (by omega) (by simp; omega) ?_
                       intro L1 cL1 wz hL1 hg1 hat1
                       have HL1 := Lib.hid hL1
                       have HBz := Lib.hid (below_grown (below_alloc blv.out (.cells #[.int .i64 l] 3)) (ownv.out.keep (below_new wv (.cells #[.int .i64 l] 3))) (Nat.le_refl _) hg1)
                       clear hL1 hg1 hat1))
                  go_roundw
                  case rel =>
                    refine ⟨p + 1, nl + 1, cL1, L1, ys ++ [l], by omega, by omega, rfl, by go_num, HBz, by rw [List.map_append]; exact HL1, ?_, by have := hdone2.out; simpa [Hid] using this⟩
                    intro z hz
                    rcases List.mem_append.1 hz with hz | hz
                    · exact hys.out z hz
                    · simp at hz; subst hz; exact ⟨l1, l2⟩
                  case measure => simp [intOf]; omega
          · have hres : Hid (ys = blkF xss xs') := by have := hdone.out; rw [List.drop_of_length_le (by rw [hl7.out]; omega)] at this; simpa [Hid] using this
            have IW := Lib.hid (hown.out.ints hys.out)
            rw [hres.out] at IW
            have f0 := keepBox hbl.out cK_f_0
            have f1 := keepBox hbl.out cK_f_1
            have g0 := keepBox hbl.out cK_x_0
            have g1 := keepBox hbl.out cK_x_1
            have IL9 := Lib.hid (IL.out.keep hbl.out)
            have HB9 := Lib.hid (below_next HB.out hbl.out)
            go_wp2_with fail
            refine (same_any _ _ _ _ _ _ (blkF xss xs') (blkF xss xs') _ IL9.out IW.out true (by show _ = _; simp [sameB])).mono ?_
            rintro e w9 hq9
            obtain ⟨rfl, hb9⟩ := hq9.v
            clear hq9
            go_wp2_with fail
            go_ret
            exact ⟨rfl, below_next HB9.out hb9⟩
  · have d1 : (r1 != 0) = true := by simpa using hr1
    have d1' : (r1 == 0) = false := by simpa using hr1
    go_enter Try.func3, Try.ntmps3
    go_wp2_with fail
    refine (heavy_any _ _ _ _ _ hn63 _ hhv).mono ?_
    rintro e w1 ⟨rfl, hb1⟩
    obtain ⟨K_c0, B_w1, l_w1⟩ := blk1 hb1
    replace G := Lib.hid (G.out.keep B_w1)
    have HB := Lib.hid B_w1
    have K_c := Lib.hid K_c0
    clear hb1 B_w1 K_c0
    have cK_c_0 := K_c.out.cell 0
    have cK_c_1 := K_c.out.cell 1
    simp at cK_c_0 cK_c_1
    have zK_c := K_c.out.lt
    go_wp2_with fail
    refine (blocked_wrong _ _ _ xss vars i _ G.out hv r1 r2 hr hr1).mono ?_
    rintro e w2 ⟨rfl, hb2⟩
    have B_w2 := hb2
    replace G := Lib.hid (G.out.keep B_w2)
    replace K_c := Lib.hid (K_c.out.keep B_w2)
    replace HB := Lib.hid (below_next HB.out B_w2)
    clear hb2 B_w2
    clear cK_c_0 cK_c_1 zK_c
    have cK_c_0 := K_c.out.cell 0
    have cK_c_1 := K_c.out.cell 1
    simp at cK_c_0 cK_c_1
    have zK_c := K_c.out.lt
    go_wp2_with fail
    refine (check_ref _ _ _ xss vars _ (G.out.keep (below_new _ _)) hv _ _ hr).mono ?_
    rintro e w3 ⟨rfl, hb3⟩
    obtain ⟨K_f0, B_w3, l_w3⟩ := blk1 hb3
    replace G := Lib.hid (G.out.keep B_w3)
    replace K_c := Lib.hid (K_c.out.keep B_w3)
    replace HB := Lib.hid (below_next HB.out B_w3)
    have K_f := Lib.hid K_f0
    clear hb3 B_w3 K_f0
    clear cK_c_0 cK_c_1 zK_c
    have cK_c_0 := K_c.out.cell 0
    have cK_c_1 := K_c.out.cell 1
    simp at cK_c_0 cK_c_1
    have zK_c := K_c.out.lt
    have cK_f_0 := K_f.out.cell 0
    have cK_f_1 := K_f.out.cell 1
    simp at cK_f_0 cK_f_1
    have zK_f := K_f.out.lt
    go_wp2_with fail
    refine (pair_any _).mono ?_
    rintro e w4 ⟨A5, n5, c5, rfl, hG5, hb4⟩
    obtain ⟨K_x0, B_w4, l_w4⟩ := blk1 hb4
    replace G := Lib.hid (G.out.keep B_w4)
    replace K_c := Lib.hid (K_c.out.keep B_w4)
    replace K_f := Lib.hid (K_f.out.keep B_w4)
    replace HB := Lib.hid (below_next HB.out B_w4)
    have K_x := Lib.hid K_x0
    clear hb4 B_w4 K_x0
    clear cK_c_0 cK_c_1 zK_c cK_f_0 cK_f_1 zK_f
    have cK_c_0 := K_c.out.cell 0
    have cK_c_1 := K_c.out.cell 1
    simp at cK_c_0 cK_c_1
    have zK_c := K_c.out.lt
    have cK_f_0 := K_f.out.cell 0
    have cK_f_1 := K_f.out.cell 1
    simp at cK_f_0 cK_f_1
    have zK_f := K_f.out.lt
    have cK_x_0 := K_x.out.cell 0
    have cK_x_1 := K_x.out.cell 1
    simp at cK_x_0 cK_x_1
    have zK_x := K_x.out.lt
    have GP := Lib.hid hG5
    clear hG5
    go_wp2_with fail
    refine (blocked_own _ _ _ 0 [[1, 2], [-1]] [1, 2] 2 _ GP.out ⟨by omega, by omega⟩ (by show _ = _; decide) rfl).mono ?_
    rintro e w5 ⟨L5, n5', c5', rfl, hI5, hb5⟩
    have B_w5 := hb5
    replace G := Lib.hid (G.out.keep B_w5)
    replace GP := Lib.hid (GP.out.keep B_w5)
    replace K_c := Lib.hid (K_c.out.keep B_w5)
    replace K_f := Lib.hid (K_f.out.keep B_w5)
    replace K_x := Lib.hid (K_x.out.keep B_w5)
    replace HB := Lib.hid (below_next HB.out B_w5)
    clear hb5 B_w5
    clear cK_c_0 cK_c_1 zK_c cK_f_0 cK_f_1 zK_f cK_x_0 cK_x_1 zK_x
    have cK_c_0 := K_c.out.cell 0
    have cK_c_1 := K_c.out.cell 1
    simp at cK_c_0 cK_c_1
    have zK_c := K_c.out.lt
    have cK_f_0 := K_f.out.cell 0
    have cK_f_1 := K_f.out.cell 1
    simp at cK_f_0 cK_f_1
    have zK_f := K_f.out.lt
    have cK_x_0 := K_x.out.cell 0
    have cK_x_1 := K_x.out.cell 1
    simp at cK_x_0 cK_x_1
    have zK_x := K_x.out.lt
    have IO : Hid (Ints w5 L5 n5' c5' [2]) := hI5
    clear hI5
    go_wp2_with fail
    refine (same_any _ _ _ _ _ _ [2] [2] _ (IO.out.keep (below_alloc (below_new _ _) _)) (ints_made _ 3 [2] (by simp) (by simp [I64]) (by decide)) true (by show _ = _; rfl)).mono ?_
    rintro e w6 hq6
    obtain ⟨rfl, hb6⟩ := hq6.v
    clear hq6
    obtain ⟨K_g0, K_o0, B_w6, l_w6⟩ := two_blks hb6
    replace G := Lib.hid (G.out.keep B_w6)
    replace GP := Lib.hid (GP.out.keep B_w6)
    replace IO := Lib.hid (IO.out.keep B_w6)
    replace K_c := Lib.hid (K_c.out.keep B_w6)
    replace K_f := Lib.hid (K_f.out.keep B_w6)
    replace K_x := Lib.hid (K_x.out.keep B_w6)
    replace HB := Lib.hid (below_next HB.out B_w6)
    have K_g := Lib.hid K_g0
    have K_o := Lib.hid K_o0
    clear hb6 B_w6 K_g0 K_o0
    clear cK_c_0 cK_c_1 zK_c cK_f_0 cK_f_1 zK_f cK_x_0 cK_x_1 zK_x
    have cK_c_0 := K_c.out.cell 0
    have cK_c_1 := K_c.out.cell 1
    simp at cK_c_0 cK_c_1
    have zK_c := K_c.out.lt
    have cK_f_0 := K_f.out.cell 0
    have cK_f_1 := K_f.out.cell 1
    simp at cK_f_0 cK_f_1
    have zK_f := K_f.out.lt
    have cK_x_0 := K_x.out.cell 0
    have cK_x_1 := K_x.out.cell 1
    simp at cK_x_0 cK_x_1
    have zK_x := K_x.out.lt
    have cK_g_0 := K_g.out.cell 0
    have cK_g_1 := K_g.out.cell 1
    simp at cK_g_0 cK_g_1
    have zK_g := K_g.out.lt
    have cK_o_0 := K_o.out.cell 0
    simp at cK_o_0
    have zK_o := K_o.out.lt
    go_wp2_with fail
    go_ret
    exact ⟨rfl, HB.out⟩
end Go.Proofs.Ytecgmgidfjbamaa
