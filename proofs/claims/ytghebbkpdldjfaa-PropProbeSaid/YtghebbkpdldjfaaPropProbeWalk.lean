/- The walk of PropProbe: it returns true. (Printed by wip/tools/proplaws2.py.) -/
import Derived.Test.YtghebbkpdldjfaaProp
import Derived.Test.YtghebbkpdldjfaaPropPlain
import Derived.Test.YtghebbkpdldjfaaSat
import Derived.Test.YtghebbkpdldjfaaHolds
import Derived.Test.YtghebbkpdldjfaaTail
import Derived.Test.YtghebbkpdldjfaaProbe
namespace Go.Proofs.Ytghebbkpdldjfaa
open Go.RowKit
set_option linter.unusedSimpArgs false

set_option maxHeartbeats 8000000 in
set_option maxRecDepth 100000 in
theorem propProbe_walk {vars : Int} {A E : Option Addr} {n c p x : Nat} {xss : List (List Int)} {av : List Bool} (w : World) (hv : I64 vars) (h : Grid w A n c xss) (h'' : Bools w E p x av) :
    Calls Try.prog 7 #[.agg #[.int .i64 vars, .slice A n c], .slice E p x] w fun e w' => e = .returned (.bool true) ∧ Below w.heap.size w w' := by
  have hbd := h.bd
  have G := Lib.hid h
  have hbd'' := h''.bd
  have J := Lib.hid h''
  have hn63 : n ≤ 9223372036854775807 := by omega
  obtain ⟨i0, hi0, hz0, hz1, hz2⟩ := info_parts int_info
  obtain ⟨hvy, hhv⟩ : ∃ r, Hid ((decide (40 < vars) || decide (60 < (n : Int))) = r) := ⟨_, rfl⟩
  obtain ⟨r1, r2, hr⟩ : ∃ r1 r2, Hid (checkC vars xss = (r1, r2)) := ⟨_, _, rfl⟩
  clear h
  cases hvy
  rotate_left
  · go_enter Try.func7, Try.ntmps7
    go_wp2_with fail
    refine (heavy_any _ _ _ _ _ hn63 _ hhv).mono ?_
    rintro e w1 ⟨rfl, hb1⟩
    obtain ⟨K_c0, B_w1, l_w1⟩ := blk1 hb1
    replace G := Lib.hid (G.out.keep B_w1)
    replace J := Lib.hid (J.out.keep B_w1)
    have HB := Lib.hid B_w1
    have K_c := Lib.hid K_c0
    clear hb1 B_w1 K_c0
    have cK_c_0 := K_c.out.cell 0
    have cK_c_1 := K_c.out.cell 1
    simp at cK_c_0 cK_c_1
    have zK_c := K_c.out.lt
    go_wp2_with fail
    go_ret
    exact ⟨rfl, HB.out⟩
  by_cases hr1 : r1 = 0
  · subst hr1
    obtain ⟨hr0, v0, v1, hn400, hrows⟩ := checkC_ok (vars := vars) (xss := xss) (by rw [hr.out])
    obtain rfl : r2 = 0 := by rw [hr.out] at hr0; simpa using hr0
    have v6 : vars ≤ 1000000 := by omega
    have HC : Hid (∀ x ∈ xss, Lits vars x) := fun x hx => (hrows x hx).2
    clear hr0 hrows hn400
    go_enter Try.func7, Try.ntmps7
    go_wp2_with fail
    refine (heavy_any _ _ _ _ _ hn63 _ hhv).mono ?_
    rintro e w1 ⟨rfl, hb1⟩
    obtain ⟨K_c0, B_w1, l_w1⟩ := blk1 hb1
    replace G := Lib.hid (G.out.keep B_w1)
    replace J := Lib.hid (J.out.keep B_w1)
    have HB := Lib.hid B_w1
    have K_c := Lib.hid K_c0
    clear hb1 B_w1 K_c0
    have cK_c_0 := K_c.out.cell 0
    have cK_c_1 := K_c.out.cell 1
    simp at cK_c_0 cK_c_1
    have zK_c := K_c.out.lt
    go_wp2_with fail
    refine (probe_own _ _ _ xss vars _ G.out hv hr).mono ?_
    rintro e w2 ⟨L, nl, cl, rfl, hI2, hb2⟩
    have B_w2 := hb2
    replace G := Lib.hid (G.out.keep B_w2)
    replace J := Lib.hid (J.out.keep B_w2)
    replace K_c := Lib.hid (K_c.out.keep B_w2)
    replace HB := Lib.hid (below_next HB.out B_w2)
    clear hb2 B_w2
    clear cK_c_0 cK_c_1 zK_c
    have cK_c_0 := K_c.out.cell 0
    have cK_c_1 := K_c.out.cell 1
    simp at cK_c_0 cK_c_1
    have zK_c := K_c.out.lt
    have IL := Lib.hid hI2
    have hbdL := hI2.bd
    have hlL := Lib.hid hI2.len
    clear hI2
    go_wp2_with fail
    refine (pair_any _).mono ?_
    rintro e w3 ⟨A5, n5, c5, rfl, hG5, hb3⟩
    obtain ⟨K_f0, B_w3, l_w3⟩ := blk1 hb3
    replace G := Lib.hid (G.out.keep B_w3)
    replace J := Lib.hid (J.out.keep B_w3)
    replace IL := Lib.hid (IL.out.keep B_w3)
    replace K_c := Lib.hid (K_c.out.keep B_w3)
    replace HB := Lib.hid (below_next HB.out B_w3)
    have K_f := Lib.hid K_f0
    clear hb3 B_w3 K_f0
    clear cK_c_0 cK_c_1 zK_c
    have cK_c_0 := K_c.out.cell 0
    have cK_c_1 := K_c.out.cell 1
    simp at cK_c_0 cK_c_1
    have zK_c := K_c.out.lt
    have cK_f_0 := K_f.out.cell 0
    have cK_f_1 := K_f.out.cell 1
    simp at cK_f_0 cK_f_1
    have zK_f := K_f.out.lt
    have GP := Lib.hid hG5
    clear hG5
    go_wp2_with fail
    refine (probe_own _ _ _ [[1, 2], [-1]] 2 _ GP.out ⟨by omega, by omega⟩ (by show _ = _; decide)).mono ?_
    rintro e w4 ⟨L7, n7, c7, rfl, hI7, hb4⟩
    have B_w4 := hb4
    replace G := Lib.hid (G.out.keep B_w4)
    replace J := Lib.hid (J.out.keep B_w4)
    replace IL := Lib.hid (IL.out.keep B_w4)
    replace GP := Lib.hid (GP.out.keep B_w4)
    replace K_c := Lib.hid (K_c.out.keep B_w4)
    replace K_f := Lib.hid (K_f.out.keep B_w4)
    replace HB := Lib.hid (below_next HB.out B_w4)
    clear hb4 B_w4
    clear cK_c_0 cK_c_1 zK_c cK_f_0 cK_f_1 zK_f
    have cK_c_0 := K_c.out.cell 0
    have cK_c_1 := K_c.out.cell 1
    simp at cK_c_0 cK_c_1
    have zK_c := K_c.out.lt
    have cK_f_0 := K_f.out.cell 0
    have cK_f_1 := K_f.out.cell 1
    simp at cK_f_0 cK_f_1
    have zK_f := K_f.out.lt
    have IO : Hid (Ints w4 L7 n7 c7 [-1, 2]) := hI7
    clear hI7
    go_wp2_with fail
    refine (same_any _ _ _ _ _ _ [-1, 2] [-1, 2] _ (IO.out.keep (below_alloc (below_new _ _) _)) (ints_made _ 3 [-1, 2] (by simp) (by simp [I64]) (by decide)) true (by show _ = _; rfl)).mono ?_
    rintro e w5 hq5
    obtain ⟨rfl, hb5⟩ := hq5.v
    clear hq5
    obtain ⟨K_g0, K_o0, B_w5, l_w5⟩ := two_blks hb5
    replace G := Lib.hid (G.out.keep B_w5)
    replace J := Lib.hid (J.out.keep B_w5)
    replace IL := Lib.hid (IL.out.keep B_w5)
    replace GP := Lib.hid (GP.out.keep B_w5)
    replace IO := Lib.hid (IO.out.keep B_w5)
    replace K_c := Lib.hid (K_c.out.keep B_w5)
    replace K_f := Lib.hid (K_f.out.keep B_w5)
    replace HB := Lib.hid (below_next HB.out B_w5)
    have K_g := Lib.hid K_g0
    have K_o := Lib.hid K_o0
    clear hb5 B_w5 K_g0 K_o0
    clear cK_c_0 cK_c_1 zK_c cK_f_0 cK_f_1 zK_f
    have cK_c_0 := K_c.out.cell 0
    have cK_c_1 := K_c.out.cell 1
    simp at cK_c_0 cK_c_1
    have zK_c := K_c.out.lt
    have cK_f_0 := K_f.out.cell 0
    have cK_f_1 := K_f.out.cell 1
    simp at cK_f_0 cK_f_1
    have zK_f := K_f.out.lt
    have cK_g_0 := K_g.out.cell 0
    have cK_g_1 := K_g.out.cell 1
    simp at cK_g_0 cK_g_1
    have zK_g := K_g.out.lt
    have cK_o_0 := K_o.out.cell 0
    have cK_o_1 := K_o.out.cell 1
    simp at cK_o_0 cK_o_1
    have zK_o := K_o.out.lt
    by_cases hpv : (p : Int) = vars
    · have d2 : ((p : Int) != vars) = false := by simpa using hpv
      have HIN : Hid (∀ xs ∈ xss, InLits p xs) := fun xs hx => (HC.out xs hx).inLits hpv
      obtain ⟨q, hq⟩ : ∃ q, Hid (allB xss av = q) := ⟨_, rfl⟩
      go_wp2_with fail
      refine (all_ref _ _ _ _ _ _ xss av _ G.out J.out HIN.out q hq).mono ?_
      rintro e w7 hq7
      obtain ⟨rfl, hb7⟩ := hq7.v
      clear hq7
      cases q
      · go_wp2_with fail
        go_ret
        exact ⟨rfl, below_next HB.out hb7⟩
      · have IL7 := Lib.hid (IL.out.keep hb7)
        have J7 := Lib.hid (J.out.keep hb7)
        have HB7 := Lib.hid (below_next HB.out hb7)
        have c7 := keepBox hb7 cK_c_0
        clear hb7
        go_wp2_with fail
        go_loopw [9] (fun i wr => ∃ j : Nat, j ≤ nl ∧ i = .int .i64 j ∧ Hid (∃ m, wr = w7.drewN m)) (fun i _ => nl - (intOf i).toNat)
        case atStart => exact ⟨0, Nat.zero_le _, rfl, ⟨0, rfl⟩⟩
        case round =>
          obtain ⟨j, hj, rfl, hB⟩ := hrel
          have hbW : Below w7.heap.size w7 wr := by obtain ⟨m, rfl⟩ := hB.out; exact below_drewN w7 m
          have e0 := keepBox hbW c7
          by_cases hlt : j < nl
          · obtain ⟨b, off, z, hLe, hb, hcell, z1, z2, hz⟩ := (IL7.out.keep hbW).round hlt
            subst hLe
            obtain ⟨hz0', hzv, hzf⟩ := probeF_mem v0 (List.mem_of_getElem? hz.out)
            have HO := Lib.hid ((IL7.out.keep hbW).one hz.out hlt)
            have JW := Lib.hid (J7.out.keep hbW)
            have hs : Hid (satB av [z] = true) := fallsF_sound (fun c hc => (HC.out c hc).cls.1) (by simpa using fun e => hz0' e.symm) hq.out hzf
            have HI1 : Hid (InLits p [z]) := fun x hx => by simp at hx; subst hx; exact ⟨hz0', by omega, by omega⟩
            have d0 : (z == 0) = false := by simpa using hz0'
            have hna : ¬ vars < (z.natAbs : Int) := by omega
            have d3 : decide (vars < (z.natAbs : Int)) = false := decide_eq_false hna
            have y1 : (0 : Int) ≤ (j : Int) := by omega
            have y2 : (j : Int) < (nl : Int) := by omega
            have y3 : (j : Int) + 1 ≤ (cl : Int) := by omega
            have y4 : (j : Int) ≤ (j : Int) + 1 := by omega
            have y6 : (0 : Int) ≤ (j : Int) + 1 := by omega
            have hm1 : -9223372036854775807 ≤ z ∧ z ≤ 9223372036854775807 := by omega
            have y5 : IntKind.i64.wrap ((j : Int) + 1) = (j : Int) + 1 := by rw [IntKind.wrap_i64]; omega
            clear hbW hzf
            go_wp2_with fail
            go_quiet ((first | (go_at_call 16; exact RetQ.quiet (of_any z _ hm1.1 hm1.2)) | (go_at_call 27; exact RetQ.quiet (sat_ref _ _ _ _ _ _ [z] av _ (HO.out.drewN _) (JW.out.drewN _) HI1.out true hs))))
            go_wp2_with fail
            go_roundw
            case rel => exact ⟨j + 1, by omega, by go_num, by obtain ⟨m, rfl⟩ := hB.out; exact ⟨_, World.drewN_drewN _ _ _⟩⟩
            case measure => simp [intOf]; omega
          · go_wp2_with fail
            go_ret
            exact ⟨rfl, below_next HB7.out hbW⟩
    · have d2 : ((p : Int) != vars) = true := by simpa using hpv
      go_wp2_with fail
      go_ret
      exact ⟨rfl, HB.out⟩
  · have d1 : (r1 != 0) = true := by simpa using hr1
    go_enter Try.func7, Try.ntmps7
    go_wp2_with fail
    refine (heavy_any _ _ _ _ _ hn63 _ hhv).mono ?_
    rintro e w1 ⟨rfl, hb1⟩
    obtain ⟨K_c0, B_w1, l_w1⟩ := blk1 hb1
    replace G := Lib.hid (G.out.keep B_w1)
    replace J := Lib.hid (J.out.keep B_w1)
    have HB := Lib.hid B_w1
    have K_c := Lib.hid K_c0
    clear hb1 B_w1 K_c0
    have cK_c_0 := K_c.out.cell 0
    have cK_c_1 := K_c.out.cell 1
    simp at cK_c_0 cK_c_1
    have zK_c := K_c.out.lt
    go_wp2_with fail
    refine (probe_wrong _ _ _ xss vars _ G.out hv r1 r2 hr hr1).mono ?_
    rintro e w2 ⟨rfl, hb2⟩
    have B_w2 := hb2
    replace G := Lib.hid (G.out.keep B_w2)
    replace J := Lib.hid (J.out.keep B_w2)
    replace K_c := Lib.hid (K_c.out.keep B_w2)
    replace HB := Lib.hid (below_next HB.out B_w2)
    clear hb2 B_w2
    clear cK_c_0 cK_c_1 zK_c
    have cK_c_0 := K_c.out.cell 0
    have cK_c_1 := K_c.out.cell 1
    simp at cK_c_0 cK_c_1
    have zK_c := K_c.out.lt
    go_wp2_with fail
    go_ret
    exact ⟨rfl, below_next HB.out (below_new _ _)⟩
end Go.Proofs.Ytghebbkpdldjfaa
