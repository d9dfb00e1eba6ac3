/- The walk of ResSound: it returns true. (Printed by wip/tools/reslaws.py.) -/
import Derived.Test.YtecgmgidfjbamaaResAll
import Derived.Test.YtecgmgidfjbamaaTrip1
import Derived.Test.YtecgmgidfjbamaaHeavy
import Derived.Test.YtecgmgidfjbamaaHolds
import Derived.Test.YtecgmgidfjbamaaRows2
namespace Go.Proofs.Ytecgmgidfjbamaa
open Go.RowKit
set_option linter.unusedSimpArgs false

set_option maxHeartbeats 8000000 in
set_option maxRecDepth 100000 in
theorem resSound_walk {vars : Int} {A B : Option Addr} {n c m d : Nat} {xss : List (List Int)} {rs : List R3} {E : Option Addr} {q t : Nat} {a : List Bool} (w : World) (hv : I64 vars) (h : Grid w A n c xss) (ht : Trips w B m d rs) (ha : Bools w E q t a) :
    Calls Try.prog 8 #[.agg #[.int .i64 vars, .slice A n c], .slice B m d, .slice E q t] w fun e w' => e = .returned (.bool true) ∧ Below w.heap.size w w' := by
  have hbd := h.bd
  have hlen := Lib.hid h.len
  have hbdt := ht.bd
  have hlt := Lib.hid ht.len
  have G := Lib.hid h
  have TT := Lib.hid ht
  have hn63 : n ≤ 9223372036854775807 := by omega
  obtain ⟨hvy, hhv⟩ : ∃ r, Hid ((decide (40 < vars) || decide (60 < (n : Int))) = r) := ⟨_, rfl⟩
  obtain ⟨r1, r2, hr⟩ : ∃ r1 r2, Hid (checkC vars xss = (r1, r2)) := ⟨_, _, rfl⟩
  have HA := Lib.hid ha
  have hbda := ha.bd
  have hla := Lib.hid ha.len
  clear h ht ha
  cases hvy
  rotate_left
  · go_enter Try.func8, Try.ntmps8
    go_wp2_with fail
    refine (heavy_any _ _ _ _ _ hn63 _ hhv).mono ?_
    rintro e w1 ⟨rfl, hb1⟩
    obtain ⟨K_c0, B_w1, l_w1⟩ := blk1 hb1
    replace G := Lib.hid (G.out.keep B_w1)
    replace TT := Lib.hid (TT.out.keep B_w1)
    replace HA := Lib.hid (HA.out.keep B_w1)
    have HB := Lib.hid B_w1
    have K_c := Lib.hid K_c0
    clear hb1 B_w1 K_c0
    have cK_c_0 := K_c.out.cell 0
    have cK_c_1 := K_c.out.cell 1
    simp at cK_c_0 cK_c_1
    have zK_c := K_c.out.lt
    go_wp2_with fail
    go_ret
    exact ⟨rfl, HB.out⟩
  by_cases hm200 : 200 < m
  · go_enter Try.func8, Try.ntmps8
    go_wp2_with fail
    refine (heavy_any _ _ _ _ _ hn63 _ hhv).mono ?_
    rintro e w1 ⟨rfl, hb1⟩
    obtain ⟨K_c0, B_w1, l_w1⟩ := blk1 hb1
    replace G := Lib.hid (G.out.keep B_w1)
    replace TT := Lib.hid (TT.out.keep B_w1)
    replace HA := Lib.hid (HA.out.keep B_w1)
    have HB := Lib.hid B_w1
    have K_c := Lib.hid K_c0
    clear hb1 B_w1 K_c0
    have cK_c_0 := K_c.out.cell 0
    have cK_c_1 := K_c.out.cell 1
    simp at cK_c_0 cK_c_1
    have zK_c := K_c.out.lt
    go_wp2_with fail
    go_ret
    exact ⟨rfl, HB.out⟩
  by_cases hr1 : r1 = 0
  · subst hr1
    obtain ⟨hr0, v0, v1, hn400, hrows⟩ := checkC_ok (vars := vars) (xss := xss) (by rw [hr.out])
    obtain rfl : r2 = 0 := by rw [hr.out] at hr0; simpa using hr0
    have HC : Hid (∀ x ∈ xss, Lits vars x) := fun x hx => (hrows x hx).2
    obtain ⟨l, s1, s2, hR⟩ : ∃ l s1 s2, Hid (resC vars xss rs = (l, s1, s2)) := ⟨_, _, _, rfl⟩
    clear hr0 hrows hn400
    by_cases hs1 : s1 = 0
    · subst hs1
      obtain ⟨hs2, hll, HLL, HSND⟩ : s2 = 0 ∧ Hid (l.length = rs.length) ∧ Hid (∀ x ∈ l, Lits vars x) ∧ Hid (allB xss a = true → allB l a = true) := by
        have h1 := hR.out
        unfold resC at h1
        split at h1
        · simp at h1
        · obtain ⟨h0, h2⟩ := Prod.mk.inj h1
          obtain ⟨h3, h4, h5, h6, h7⟩ := ressF_ok (m := a) rs xss 0 HC.out (by rw [h2])
          rw [h2] at h3
          refine ⟨by simpa using h3, ?_, ?_, ?_⟩
          · rw [← h0]; show _ = _; rw [List.length_drop, h4]; omega
          · rw [← h0]; exact fun x hx => h6 x (List.mem_of_mem_drop hx)
          · rw [← h0]
            intro hs
            have := h7 hs
            unfold allB at this ⊢
            rw [List.all_eq_true] at this ⊢
            exact fun x hx => this x (List.mem_of_mem_drop hx)
      subst hs2
      go_enter Try.func8, Try.ntmps8
      go_wp2_with fail
      refine (heavy_any _ _ _ _ _ hn63 _ hhv).mono ?_
      rintro e w1 ⟨rfl, hb1⟩
      obtain ⟨K_c0, B_w1, l_w1⟩ := blk1 hb1
      replace G := Lib.hid (G.out.keep B_w1)
      replace TT := Lib.hid (TT.out.keep B_w1)
      replace HA := Lib.hid (HA.out.keep B_w1)
      have HB := Lib.hid B_w1
      have K_c := Lib.hid K_c0
      clear hb1 B_w1 K_c0
      have cK_c_0 := K_c.out.cell 0
      have cK_c_1 := K_c.out.cell 1
      simp at cK_c_0 cK_c_1
      have zK_c := K_c.out.lt
      go_wp2_with fail
      refine (res_check _ _ _ _ _ _ xss rs vars _ G.out hv TT.out hr l 0 0 hR).mono ?_
      rintro e w2 ⟨L, nL, cL, rfl, hG2, hb2⟩
      have B_w2 := hb2
      replace G := Lib.hid (G.out.keep B_w2)
      replace TT := Lib.hid (TT.out.keep B_w2)
      replace HA := Lib.hid (HA.out.keep B_w2)
      replace K_c := Lib.hid (K_c.out.keep B_w2)
      replace HB := Lib.hid (below_next HB.out B_w2)
      clear hb2 B_w2
      clear cK_c_0 cK_c_1 zK_c
      have cK_c_0 := K_c.out.cell 0
      have cK_c_1 := K_c.out.cell 1
      simp at cK_c_0 cK_c_1
      have zK_c := K_c.out.lt
      have GL := Lib.hid hG2
      have hL := Lib.hid hG2.len
      have hLb := hG2.bd
      clear hG2
      go_wp2_with fail
      refine (pair_any _).mono ?_
      rintro e w4 ⟨A5, n5, c5, rfl, hG5, hb4⟩
      obtain ⟨K_f0, B_w4, l_w4⟩ := blk1 hb4
      replace G := Lib.hid (G.out.keep B_w4)
      replace TT := Lib.hid (TT.out.keep B_w4)
      replace HA := Lib.hid (HA.out.keep B_w4)
      replace GL := Lib.hid (GL.out.keep B_w4)
      replace K_c := Lib.hid (K_c.out.keep B_w4)
      replace HB := Lib.hid (below_next HB.out B_w4)
      have K_f := Lib.hid K_f0
      clear hb4 B_w4 K_f0
      clear cK_c_0 cK_c_1 zK_c
      have cK_c_0 := K_c.out.cell 0
      have cK_c_1 := K_c.out.cell 1
      simp at cK_c_0 cK_c_1
      have zK_c := K_c.out.lt
      have cK_f_0 := K_f.out.cell 0
      have cK_f_1 := K_f.out.cell 1
      simp at cK_f_0 cK_f_1
      have zK_f := K_f.out.lt
      have GP := Lib.hid hG5
      clear hG5
      go_wp2_with fail
      refine (res_check _ _ _ _ _ _ [[1, 2], [-1]] [(0, 1, 1)] 2 _ (GP.out.keep (below_new _ _)) ⟨by omega, by omega⟩ (trip1 _ 56 0 1 1 rfl ⟨⟨by omega, by omega⟩, ⟨by omega, by omega⟩, ⟨by omega, by omega⟩⟩) (by show _ = _; decide) [[2]] 0 0 (by show _ = _; decide)).mono ?_
      rintro e w5 ⟨A6, n6, c6, rfl, hG6, hb5⟩
      obtain ⟨K_o0, B_w5, l_w5⟩ := blk1 hb5
      replace G := Lib.hid (G.out.keep B_w5)
      replace TT := Lib.hid (TT.out.keep B_w5)
      replace HA := Lib.hid (HA.out.keep B_w5)
      replace GL := Lib.hid (GL.out.keep B_w5)
      replace GP := Lib.hid (GP.out.keep B_w5)
      replace K_c := Lib.hid (K_c.out.keep B_w5)
      replace K_f := Lib.hid (K_f.out.keep B_w5)
      replace HB := Lib.hid (below_next HB.out B_w5)
      have K_o := Lib.hid K_o0
      clear hb5 B_w5 K_o0
      clear cK_c_0 cK_c_1 zK_c cK_f_0 cK_f_1 zK_f
      have cK_c_0 := K_c.out.cell 0
      have cK_c_1 := K_c.out.cell 1
      simp at cK_c_0 cK_c_1
      have zK_c := K_c.out.lt
      have cK_f_0 := K_f.out.cell 0
      have cK_f_1 := K_f.out.cell 1
      simp at cK_f_0 cK_f_1
      have zK_f := K_f.out.lt
      have cK_o_0 := K_o.out.cell 0
      have cK_o_1 := K_o.out.cell 1
      have cK_o_2 := K_o.out.cell 2
      simp at cK_o_0 cK_o_1 cK_o_2
      have zK_o := K_o.out.lt
      have GO := Lib.hid hG6
      clear hG6
      go_wp2_with fail
      have hI2 := ints_made (w5.alloc (.cells #[.int .i64 0, .int .i64 0] 28)) 3 [2] (b := w5.heap.size + 1) (by simp) (by simp [I64]) (by decide)
      refine (rows_any _ _ _ _ _ _ [[2]] [[2]] _ (GO.out.keep (below_alloc (below_alloc (below_new _ _) _) _)) (grid1 26 (by simp) hI2) true (by show _ = _; rfl)).mono ?_
      rintro e w6 hq6
      obtain ⟨rfl, hb6⟩ := hq6.v
      clear hq6 hI2
      obtain ⟨K_g0, K_p0, K_q0, B_w6, l_w6⟩ := blk3 hb6
      replace G := Lib.hid (G.out.keep B_w6)
      replace TT := Lib.hid (TT.out.keep B_w6)
      replace HA := Lib.hid (HA.out.keep B_w6)
      replace GL := Lib.hid (GL.out.keep B_w6)
      replace GP := Lib.hid (GP.out.keep B_w6)
      replace GO := Lib.hid (GO.out.keep B_w6)
      replace K_c := Lib.hid (K_c.out.keep B_w6)
      replace K_f := Lib.hid (K_f.out.keep B_w6)
      replace K_o := Lib.hid (K_o.out.keep B_w6)
      replace HB := Lib.hid (below_next HB.out B_w6)
      have K_g := Lib.hid K_g0
      have K_p := Lib.hid K_p0
      have K_q := Lib.hid K_q0
      clear hb6 B_w6 K_g0 K_p0 K_q0
      clear cK_c_0 cK_c_1 zK_c cK_f_0 cK_f_1 zK_f cK_o_0 cK_o_1 cK_o_2 zK_o
      have cK_c_0 := K_c.out.cell 0
      have cK_c_1 := K_c.out.cell 1
      simp at cK_c_0 cK_c_1
      have zK_c := K_c.out.lt
      have cK_f_0 := K_f.out.cell 0
      have cK_f_1 := K_f.out.cell 1
      simp at cK_f_0 cK_f_1
      have zK_f := K_f.out.lt
      have cK_o_0 := K_o.out.cell 0
      have cK_o_1 := K_o.out.cell 1
      have cK_o_2 := K_o.out.cell 2
      simp at cK_o_0 cK_o_1 cK_o_2
      have zK_o := K_o.out.lt
      have cK_g_0 := K_g.out.cell 0
      have cK_g_1 := K_g.out.cell 1
      simp at cK_g_0 cK_g_1
      have zK_g := K_g.out.lt
      have cK_p_0 := K_p.out.cell 0
      simp at cK_p_0
      have zK_p := K_p.out.lt
      have cK_q_0 := K_q.out.cell 0
      simp at cK_q_0
      have zK_q := K_q.out.lt
      obtain rfl : nL = m := by have h1 := hL.out; have h2 := hlt.out; rw [hll.out] at h1; omega
      have dmm : ((nL : Int) != (nL : Int)) = false := by simp
      go_wp2_with fail
      go_loopw [11] (fun i wr => ∃ k : Nat, k ≤ nL ∧ i = .int .i64 k ∧ Hid (∃ m, wr = w6.drewN m)) (fun i _ => nL - (intOf i).toNat)
      case atStart => exact ⟨0, Nat.zero_le _, rfl, ⟨0, rfl⟩⟩
      case round =>
        obtain ⟨k, hk, rfl, hB⟩ := hrel
        have hbl : Below w6.heap.size w6 wr := by obtain ⟨m, rfl⟩ := hB.out; exact below_drewN w6 m
        have GLr := Lib.hid (GL.out.keep hbl)
        have e0 := keepBox hbl cK_c_0
        have e1 := keepBox hbl cK_c_1
        have ze : w.heap.size < wr.heap.size := (cell_lt e0).1
        by_cases hkm : k < nL
        · obtain ⟨b, off, X, nx, cx, x, hLe, hb, hcell, hx, hxk⟩ := GLr.out.round hkm
          subst hLe
          have HX := Lib.hid hx
          have hlx : Hid (badF vars [] x = (0, 0)) := lits_iff.1 (HLL.out x (List.mem_of_getElem? hxk.out))
          have y1 : (0 : Int) ≤ (k : Int) := by omega
          have y2 : (k : Int) < (nL : Int) := by omega
          clear hx hbl
          go_wp2_with fail
          go_quiet ((go_at_call 33; exact RetQ.quiet (wrong_any _ _ _ x _ _ (HX.out.drewN _) (by omega) (by omega) _ _ hlx)))
          go_wp2_with fail
          go_roundw
          case rel => exact ⟨k + 1, by omega, by go_num, by obtain ⟨m, rfl⟩ := hB.out; exact ⟨_, World.drewN_drewN _ _ _⟩⟩
          case measure => simp [intOf]; omega
        · have HBr := Lib.hid (below_next HB.out hbl)
          have HAr := Lib.hid (HA.out.keep hbl)
          have Gr := Lib.hid (G.out.keep hbl)
          clear hbl
          by_cases hq : (q : Int) = vars
          · have dq : ((q : Int) != vars) = false := by simpa using hq
            have HIX : Hid (∀ xs ∈ xss, InLits q xs) := fun xs hx => (HC.out xs hx).inLits hq
            have HIL : Hid (∀ xs ∈ l, InLits q xs) := fun xs hx => (HLL.out xs hx).inLits hq
            obtain ⟨p1, hp1⟩ : ∃ p, Hid (allB xss a = p) := ⟨_, rfl⟩
            obtain ⟨p2, hp2⟩ : ∃ p, Hid (allB l a = p) := ⟨_, rfl⟩
            go_wp2_with fail
            refine (all_ref _ _ _ _ _ _ xss a _ Gr.out HAr.out HIX.out p1 hp1).mono ?_
            rintro e w7 hq7
            obtain ⟨rfl, hb7⟩ := hq7.v
            clear hq7
            have HB7 := Lib.hid (below_next HBr.out hb7)
            have GL7 := Lib.hid (GLr.out.keep hb7)
            have HA7 := Lib.hid (HAr.out.keep hb7)
            clear hb7
            cases p1
            · go_wp2_with fail
              go_ret
              exact ⟨rfl, HB7.out⟩
            · obtain rfl : p2 = true := by rw [← hp2.out]; exact HSND.out hp1.out
              go_wp2_with fail
              refine (all_ref _ _ _ _ _ _ l a _ GL7.out HA7.out HIL.out true hp2).mono ?_
              rintro e w8 hq8
              obtain ⟨rfl, hb8⟩ := hq8.v
              clear hq8
              have HB8 := Lib.hid (below_next HB7.out hb8)
              clear hb8
              go_wp2_with fail
              go_ret
              exact ⟨rfl, HB8.out⟩
          · have dq : ((q : Int) != vars) = true := by simpa using hq
            go_wp2_with fail
            go_ret
            exact ⟨rfl, HBr.out⟩
    · have d1 : (s1 != 0) = true := by simpa using hs1
      have d1' : (s1 == 0) = false := by simpa using hs1
      have hl0 : Hid (l = []) := by
        have h1 := hR.out
        unfold resC at h1
        split at h1
        · simp at h1; exact h1.1
        · obtain ⟨h0, h2⟩ := Prod.mk.inj h1
          have h3 := ressF_bad rs xss 0 (by rw [h2]; exact hs1)
          rw [h3] at h0
          rw [← h0]
          simp [Hid]
      go_enter Try.func8, Try.ntmps8
      go_wp2_with fail
      refine (heavy_any _ _ _ _ _ hn63 _ hhv).mono ?_
      rintro e w1 ⟨rfl, hb1⟩
      obtain ⟨K_c0, B_w1, l_w1⟩ := blk1 hb1
      replace G := Lib.hid (G.out.keep B_w1)
      replace TT := Lib.hid (TT.out.keep B_w1)
      replace HA := Lib.hid (HA.out.keep B_w1)
      have HB := Lib.hid B_w1
      have K_c := Lib.hid K_c0
      clear hb1 B_w1 K_c0
      have cK_c_0 := K_c.out.cell 0
      have cK_c_1 := K_c.out.cell 1
      simp at cK_c_0 cK_c_1
      have zK_c := K_c.out.lt
      go_wp2_with fail
      refine (res_check _ _ _ _ _ _ xss rs vars _ G.out hv TT.out hr l s1 s2 hR).mono ?_
      rintro e w2 ⟨L, nL, cL, rfl, hG2, hb2⟩
      have B_w2 := hb2
      replace G := Lib.hid (G.out.keep B_w2)
      replace TT := Lib.hid (TT.out.keep B_w2)
      replace HA := Lib.hid (HA.out.keep B_w2)
      replace K_c := Lib.hid (K_c.out.keep B_w2)
      replace HB := Lib.hid (below_next HB.out B_w2)
      clear hb2 B_w2
      clear cK_c_0 cK_c_1 zK_c
      have cK_c_0 := K_c.out.cell 0
      have cK_c_1 := K_c.out.cell 1
      simp at cK_c_0 cK_c_1
      have zK_c := K_c.out.lt
      have GL := Lib.hid hG2
      have hL := Lib.hid hG2.len
      have hLb := hG2.bd
      clear hG2
      go_wp2_with fail
      refine (pair_any _).mono ?_
      rintro e w4 ⟨A5, n5, c5, rfl, hG5, hb4⟩
      obtain ⟨K_f0, B_w4, l_w4⟩ := blk1 hb4
      replace G := Lib.hid (G.out.keep B_w4)
      replace TT := Lib.hid (TT.out.keep B_w4)
      replace HA := Lib.hid (HA.out.keep B_w4)
      replace GL := Lib.hid (GL.out.keep B_w4)
      replace K_c := Lib.hid (K_c.out.keep B_w4)
      replace HB := Lib.hid (below_next HB.out B_w4)
      have K_f := Lib.hid K_f0
      clear hb4 B_w4 K_f0
      clear cK_c_0 cK_c_1 zK_c
      have cK_c_0 := K_c.out.cell 0
      have cK_c_1 := K_c.out.cell 1
      simp at cK_c_0 cK_c_1
      have zK_c := K_c.out.lt
      have cK_f_0 := K_f.out.cell 0
      have cK_f_1 := K_f.out.cell 1
      simp at cK_f_0 cK_f_1
      have zK_f := K_f.out.lt
      have GP := Lib.hid hG5
      clear hG5
      go_wp2_with fail
      refine (res_check _ _ _ _ _ _ [[1, 2], [-1]] [(0, 1, 1)] 2 _ (GP.out.keep (below_new _ _)) ⟨by omega, by omega⟩ (trip1 _ 56 0 1 1 rfl ⟨⟨by omega, by omega⟩, ⟨by omega, by omega⟩, ⟨by omega, by omega⟩⟩) (by show _ = _; decide) [[2]] 0 0 (by show _ = _; decide)).mono ?_
      rintro e w5 ⟨A6, n6, c6, rfl, hG6, hb5⟩
      obtain ⟨K_o0, B_w5, l_w5⟩ := blk1 hb5
      replace G := Lib.hid (G.out.keep B_w5)
      replace TT := Lib.hid (TT.out.keep B_w5)
      replace HA := Lib.hid (HA.out.keep B_w5)
      replace GL := Lib.hid (GL.out.keep B_w5)
      replace GP := Lib.hid (GP.out.keep B_w5)
      replace K_c := Lib.hid (K_c.out.keep B_w5)
      replace K_f := Lib.hid (K_f.out.keep B_w5)
      replace HB := Lib.hid (below_next HB.out B_w5)
      have K_o := Lib.hid K_o0
      clear hb5 B_w5 K_o0
      clear cK_c_0 cK_c_1 zK_c cK_f_0 cK_f_1 zK_f
      have cK_c_0 := K_c.out.cell 0
      have cK_c_1 := K_c.out.cell 1
      simp at cK_c_0 cK_c_1
      have zK_c := K_c.out.lt
      have cK_f_0 := K_f.out.cell 0
      have cK_f_1 := K_f.out.cell 1
      simp at cK_f_0 cK_f_1
      have zK_f := K_f.out.lt
      have cK_o_0 := K_o.out.cell 0
      have cK_o_1 := K_o.out.cell 1
      have cK_o_2 := K_o.out.cell 2
      simp at cK_o_0 cK_o_1 cK_o_2
      have zK_o := K_o.out.lt
      have GO := Lib.hid hG6
      clear hG6
      go_wp2_with fail
      have hI2 := ints_made (w5.alloc (.cells #[.int .i64 0, .int .i64 0] 28)) 3 [2] (b := w5.heap.size + 1) (by simp) (by simp [I64]) (by decide)
      refine (rows_any _ _ _ _ _ _ [[2]] [[2]] _ (GO.out.keep (below_alloc (below_alloc (below_new _ _) _) _)) (grid1 26 (by simp) hI2) true (by show _ = _; rfl)).mono ?_
      rintro e w6 hq6
      obtain ⟨rfl, hb6⟩ := hq6.v
      clear hq6 hI2
      obtain ⟨K_g0, K_p0, K_q0, B_w6, l_w6⟩ := blk3 hb6
      replace G := Lib.hid (G.out.keep B_w6)
      replace TT := Lib.hid (TT.out.keep B_w6)
      replace HA := Lib.hid (HA.out.keep B_w6)
      replace GL := Lib.hid (GL.out.keep B_w6)
      replace GP := Lib.hid (GP.out.keep B_w6)
      replace GO := Lib.hid (GO.out.keep B_w6)
      replace K_c := Lib.hid (K_c.out.keep B_w6)
      replace K_f := Lib.hid (K_f.out.keep B_w6)
      replace K_o := Lib.hid (K_o.out.keep B_w6)
      replace HB := Lib.hid (below_next HB.out B_w6)
      have K_g := Lib.hid K_g0
      have K_p := Lib.hid K_p0
      have K_q := Lib.hid K_q0
      clear hb6 B_w6 K_g0 K_p0 K_q0
      clear cK_c_0 cK_c_1 zK_c cK_f_0 cK_f_1 zK_f cK_o_0 cK_o_1 cK_o_2 zK_o
      have cK_c_0 := K_c.out.cell 0
      have cK_c_1 := K_c.out.cell 1
      simp at cK_c_0 cK_c_1
      have zK_c := K_c.out.lt
      have cK_f_0 := K_f.out.cell 0
      have cK_f_1 := K_f.out.cell 1
      simp at cK_f_0 cK_f_1
      have zK_f := K_f.out.lt
      have cK_o_0 := K_o.out.cell 0
      have cK_o_1 := K_o.out.cell 1
      have cK_o_2 := K_o.out.cell 2
      simp at cK_o_0 cK_o_1 cK_o_2
      have zK_o := K_o.out.lt
      have cK_g_0 := K_g.out.cell 0
      have cK_g_1 := K_g.out.cell 1
      simp at cK_g_0 cK_g_1
      have zK_g := K_g.out.lt
      have cK_p_0 := K_p.out.cell 0
      simp at cK_p_0
      have zK_p := K_p.out.lt
      have cK_q_0 := K_q.out.cell 0
      simp at cK_q_0
      have zK_q := K_q.out.lt
      obtain rfl : nL = 0 := by have := hL.out; rw [hl0.out] at this; simpa using this.symm
      go_wp2_with fail
      go_ret
      exact ⟨rfl, HB.out⟩
  · have d1 : (r1 != 0) = true := by simpa using hr1
    have d1' : (r1 == 0) = false := by simpa using hr1
    go_enter Try.func8, Try.ntmps8
    go_wp2_with fail
    refine (heavy_any _ _ _ _ _ hn63 _ hhv).mono ?_
    rintro e w1 ⟨rfl, hb1⟩
    obtain ⟨K_c0, B_w1, l_w1⟩ := blk1 hb1
    replace G := Lib.hid (G.out.keep B_w1)
    replace TT := Lib.hid (TT.out.keep B_w1)
    replace HA := Lib.hid (HA.out.keep B_w1)
    have HB := Lib.hid B_w1
    have K_c := Lib.hid K_c0
    clear hb1 B_w1 K_c0
    have cK_c_0 := K_c.out.cell 0
    have cK_c_1 := K_c.out.cell 1
    simp at cK_c_0 cK_c_1
    have zK_c := K_c.out.lt
    go_wp2_with fail
    refine (res_check_wrong _ _ _ _ _ _ xss vars _ G.out hv r1 r2 hr hr1).mono ?_
    rintro e w2 ⟨L, nL, cL, rfl, hG2, hb2⟩
    have B_w2 := hb2
    replace G := Lib.hid (G.out.keep B_w2)
    replace TT := Lib.hid (TT.out.keep B_w2)
    replace HA := Lib.hid (HA.out.keep B_w2)
    replace K_c := Lib.hid (K_c.out.keep B_w2)
    replace HB := Lib.hid (below_next HB.out B_w2)
    clear hb2 B_w2
    clear cK_c_0 cK_c_1 zK_c
    have cK_c_0 := K_c.out.cell 0
    have cK_c_1 := K_c.out.cell 1
    simp at cK_c_0 cK_c_1
    have zK_c := K_c.out.lt
    have GL := Lib.hid hG2
    have hL := Lib.hid hG2.len
    have hLb := hG2.bd
    clear hG2
    go_wp2_with fail
    refine (pair_any _).mono ?_
    rintro e w4 ⟨A5, n5, c5, rfl, hG5, hb4⟩
    obtain ⟨K_f0, B_w4, l_w4⟩ := blk1 hb4
    replace G := Lib.hid (G.out.keep B_w4)
    replace TT := Lib.hid (TT.out.keep B_w4)
    replace HA := Lib.hid (HA.out.keep B_w4)
    replace GL := Lib.hid (GL.out.keep B_w4)
    replace K_c := Lib.hid (K_c.out.keep B_w4)
    replace HB := Lib.hid (below_next HB.out B_w4)
    have K_f := Lib.hid K_f0
    clear hb4 B_w4 K_f0
    clear cK_c_0 cK_c_1 zK_c
    have cK_c_0 := K_c.out.cell 0
    have cK_c_1 := K_c.out.cell 1
    simp at cK_c_0 cK_c_1
    have zK_c := K_c.out.lt
    have cK_f_0 := K_f.out.cell 0
    have cK_f_1 := K_f.out.cell 1
    simp at cK_f_0 cK_f_1
    have zK_f := K_f.out.lt
    have GP := Lib.hid hG5
    clear hG5
    go_wp2_with fail
    refine (res_check _ _ _ _ _ _ [[1, 2], [-1]] [(0, 1, 1)] 2 _ (GP.out.keep (below_new _ _)) ⟨by omega, by omega⟩ (trip1 _ 56 0 1 1 rfl ⟨⟨by omega, by omega⟩, ⟨by omega, by omega⟩, ⟨by omega, by omega⟩⟩) (by show _ = _; decide) [[2]] 0 0 (by show _ = _; decide)).mono ?_
    rintro e w5 ⟨A6, n6, c6, rfl, hG6, hb5⟩
    obtain ⟨K_o0, B_w5, l_w5⟩ := blk1 hb5
    replace G := Lib.hid (G.out.keep B_w5)
    replace TT := Lib.hid (TT.out.keep B_w5)
    replace HA := Lib.hid (HA.out.keep B_w5)
    replace GL := Lib.hid (GL.out.keep B_w5)
    replace GP := Lib.hid (GP.out.keep B_w5)
    replace K_c := Lib.hid (K_c.out.keep B_w5)
    replace K_f := Lib.hid (K_f.out.keep B_w5)
    replace HB := Lib.hid (below_next HB.out B_w5)
    have K_o := Lib.hid K_o0
    clear hb5 B_w5 K_o0
    clear cK_c_0 cK_c_1 zK_c cK_f_0 cK_f_1 zK_f
    have cK_c_0 := K_c.out.cell 0
    have cK_c_1 := K_c.out.cell 1
    simp at cK_c_0 cK_c_1
    have zK_c := K_c.out.lt
    have cK_f_0 := K_f.out.cell 0
    have cK_f_1 := K_f.out.cell 1
    simp at cK_f_0 cK_f_1
    have zK_f := K_f.out.lt
    have cK_o_0 := K_o.out.cell 0
    have cK_o_1 := K_o.out.cell 1
    have cK_o_2 := K_o.out.cell 2
    simp at cK_o_0 cK_o_1 cK_o_2
    have zK_o := K_o.out.lt
    have GO := Lib.hid hG6
    clear hG6
    go_wp2_with fail
    have hI2 := ints_made (w5.alloc (.cells #[.int .i64 0, .int .i64 0] 28)) 3 [2] (b := w5.heap.size + 1) (by simp) (by simp [I64]) (by decide)
    refine (rows_any _ _ _ _ _ _ [[2]] [[2]] _ (GO.out.keep (below_alloc (below_alloc (below_new _ _) _) _)) (grid1 26 (by simp) hI2) true (by show _ = _; rfl)).mono ?_
    rintro e w6 hq6
    obtain ⟨rfl, hb6⟩ := hq6.v
    clear hq6 hI2
    obtain ⟨K_g0, K_p0, K_q0, B_w6, l_w6⟩ := blk3 hb6
    replace G := Lib.hid (G.out.keep B_w6)
    replace TT := Lib.hid (TT.out.keep B_w6)
    replace HA := Lib.hid (HA.out.keep B_w6)
    replace GL := Lib.hid (GL.out.keep B_w6)
    replace GP := Lib.hid (GP.out.keep B_w6)
    replace GO := Lib.hid (GO.out.keep B_w6)
    replace K_c := Lib.hid (K_c.out.keep B_w6)
    replace K_f := Lib.hid (K_f.out.keep B_w6)
    replace K_o := Lib.hid (K_o.out.keep B_w6)
    replace HB := Lib.hid (below_next HB.out B_w6)
    have K_g := Lib.hid K_g0
    have K_p := Lib.hid K_p0
    have K_q := Lib.hid K_q0
    clear hb6 B_w6 K_g0 K_p0 K_q0
    clear cK_c_0 cK_c_1 zK_c cK_f_0 cK_f_1 zK_f cK_o_0 cK_o_1 cK_o_2 zK_o
    have cK_c_0 := K_c.out.cell 0
    have cK_c_1 := K_c.out.cell 1
    simp at cK_c_0 cK_c_1
    have zK_c := K_c.out.lt
    have cK_f_0 := K_f.out.cell 0
    have cK_f_1 := K_f.out.cell 1
    simp at cK_f_0 cK_f_1
    have zK_f := K_f.out.lt
    have cK_o_0 := K_o.out.cell 0
    have cK_o_1 := K_o.out.cell 1
    have cK_o_2 := K_o.out.cell 2
    simp at cK_o_0 cK_o_1 cK_o_2
    have zK_o := K_o.out.lt
    have cK_g_0 := K_g.out.cell 0
    have cK_g_1 := K_g.out.cell 1
    simp at cK_g_0 cK_g_1
    have zK_g := K_g.out.lt
    have cK_p_0 := K_p.out.cell 0
    simp at cK_p_0
    have zK_p := K_p.out.lt
    have cK_q_0 := K_q.out.cell 0
    simp at cK_q_0
    have zK_q := K_q.out.lt
    obtain rfl : nL = 0 := by have := hL.out; simpa using this.symm
    go_wp2_with fail
    go_ret
    exact ⟨rfl, HB.out⟩
end Go.Proofs.Ytecgmgidfjbamaa
