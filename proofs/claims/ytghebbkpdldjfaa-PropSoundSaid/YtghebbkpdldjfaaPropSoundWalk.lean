/- The walk of PropSound: it returns true. (Printed by wip/tools/proplaws2.py.) -/
import Derived.Test.YtghebbkpdldjfaaProp
import Derived.Test.YtghebbkpdldjfaaPropPlain
import Derived.Test.YtghebbkpdldjfaaSat
import Derived.Test.YtghebbkpdldjfaaHolds
import Derived.Test.YtghebbkpdldjfaaTail
namespace Go.Proofs.Ytghebbkpdldjfaa
open Go.RowKit
set_option linter.unusedSimpArgs false

set_option maxHeartbeats 8000000 in
set_option maxRecDepth 100000 in
theorem propSound_walk {vars : Int} {A B E : Option Addr} {n c m d p x : Nat} {xss : List (List Int)} {l : List Int} {av : List Bool} (w : World) (hv : I64 vars) (h : Grid w A n c xss) (h' : Ints w B m d l) (h'' : Bools w E p x av) :
    Calls Try.prog 10 #[.agg #[.int .i64 vars, .slice A n c], .slice B m d, .slice E p x] w fun e w' => e = .returned (.bool true) ∧ Below w.heap.size w w' := by
  have hbd := h.bd
  have hbd' := h'.bd
  have G := Lib.hid h
  have I := Lib.hid h'
  have hbd'' := h''.bd
  have J := Lib.hid h''
  have hn63 : n ≤ 9223372036854775807 := by omega
  have hlB := Lib.hid h'.len
  obtain ⟨hvy, hhv⟩ : ∃ r, Hid ((decide (40 < vars) || decide (60 < (n : Int))) = r) := ⟨_, rfl⟩
  obtain ⟨r1, r2, hr⟩ : ∃ r1 r2, Hid (besideR vars xss l = (r1, r2)) := ⟨_, _, rfl⟩
  clear h h'
  cases hvy
  rotate_left
  · go_enter Try.func10, Try.ntmps10
    go_wp2_with fail
    refine (heavy_any _ _ _ _ _ hn63 _ hhv).mono ?_
    rintro e w1 ⟨rfl, hb1⟩
    obtain ⟨K_c0, B_w1, l_w1⟩ := blk1 hb1
    replace G := Lib.hid (G.out.keep B_w1)
    replace I := Lib.hid (I.out.keep B_w1)
    replace J := Lib.hid (J.out.keep B_w1)
    have HB := Lib.hid B_w1
    have K_c := Lib.hid K_c0
    clear hb1 B_w1 K_c0
    have cK_c_0 := K_c.out.cell 0
    have cK_c_1 := K_c.out.cell 1
    simp at cK_c_0 cK_c_1
    have zK_c := K_c.out.lt
    go_wp2_with fail
    go_ret
    exact ⟨rfl, HB.out⟩
  by_cases hr1 : r1 = 0
  · subst hr1
    obtain ⟨hr0, hc0, hll⟩ := besideR_ok (vars := vars) (xss := xss) (l := l) (by rw [hr.out])
    obtain rfl : r2 = 0 := by rw [hr.out] at hr0; simpa using hr0
    obtain ⟨HC00, v0, v1, hn400, hrows⟩ := checkC_ok hc0
    have HC0 := Lib.hid HC00
    have v6 : vars ≤ 1000000 := by omega
    have HC : Hid (∀ x ∈ xss, Lits vars x) := fun x hx => (hrows x hx).2
    have HLL := Lib.hid hll
    clear hr0 hc0 hrows hll hn400 HC00
    go_enter Try.func10, Try.ntmps10
    go_wp2_with fail
    refine (heavy_any _ _ _ _ _ hn63 _ hhv).mono ?_
    rintro e w1 ⟨rfl, hb1⟩
    obtain ⟨K_c0, B_w1, l_w1⟩ := blk1 hb1
    replace G := Lib.hid (G.out.keep B_w1)
    replace I := Lib.hid (I.out.keep B_w1)
    replace J := Lib.hid (J.out.keep B_w1)
    have HB := Lib.hid B_w1
    have K_c := Lib.hid K_c0
    clear hb1 B_w1 K_c0
    have cK_c_0 := K_c.out.cell 0
    have cK_c_1 := K_c.out.cell 1
    simp at cK_c_0 cK_c_1
    have zK_c := K_c.out.lt
    obtain ⟨t, y, a, ha⟩ : ∃ t y a, Hid (askF vars xss l = (t, y, a)) := ⟨_, _, _, rfl⟩
    have hok := ask_ok v0 HC.out HLL.out ha.out
    have HLT := Lib.hid hok.lits
    have hlm0 : l.length ≤ t.length := by obtain ⟨u, hu⟩ := hok.ext; rw [hu]; simp
    clear hok
    go_wp2_with fail
    refine (propDo_own _ _ _ _ _ _ xss l vars _ G.out hv I.out hr t y a ha).mono ?_
    rintro e w2 ⟨L, nl, cl, rfl, hI2, hb2⟩
    have B_w2 := hb2
    replace G := Lib.hid (G.out.keep B_w2)
    replace I := Lib.hid (I.out.keep B_w2)
    replace J := Lib.hid (J.out.keep B_w2)
    replace K_c := Lib.hid (K_c.out.keep B_w2)
    replace HB := Lib.hid (below_next HB.out B_w2)
    clear hb2 B_w2
    clear cK_c_0 cK_c_1 zK_c
    have cK_c_0 := K_c.out.cell 0
    have cK_c_1 := K_c.out.cell 1
    simp at cK_c_0 cK_c_1
    have zK_c := K_c.out.lt
    have IL := Lib.hid hI2
    have hbdL := hI2.bd
    have hlL := Lib.hid hI2.len
    have hlm : m ≤ nl := by rw [← hlB.out, ← hlL.out]; exact hlm0
    have dlm : decide (nl < m) = false := decide_eq_false (by omega)
    clear hI2 hlm0
    go_wp2_with fail
    refine (pair_any _).mono ?_
    rintro e w3 ⟨A5, n5, c5, rfl, hG5, hb3⟩
    obtain ⟨K_f30, B_w3, l_w3⟩ := blk1 hb3
    replace G := Lib.hid (G.out.keep B_w3)
    replace I := Lib.hid (I.out.keep B_w3)
    replace J := Lib.hid (J.out.keep B_w3)
    replace IL := Lib.hid (IL.out.keep B_w3)
    replace K_c := Lib.hid (K_c.out.keep B_w3)
    replace HB := Lib.hid (below_next HB.out B_w3)
    have K_f3 := Lib.hid K_f30
    clear hb3 B_w3 K_f30
    clear cK_c_0 cK_c_1 zK_c
    have cK_c_0 := K_c.out.cell 0
    have cK_c_1 := K_c.out.cell 1
    simp at cK_c_0 cK_c_1
    have zK_c := K_c.out.lt
    have cK_f3_0 := K_f3.out.cell 0
    have cK_f3_1 := K_f3.out.cell 1
    simp at cK_f3_0 cK_f3_1
    have zK_f3 := K_f3.out.lt
    have GP := Lib.hid hG5
    clear hG5
    go_wp2_with fail
    refine (propFalls_own _ _ _ _ _ _ [[1, 2], [-1]] [2] 2 _ (GP.out.keep (below_new _ _)) ⟨by omega, by omega⟩ (ints_made _ 3 [2] (by simp) (by simp [I64]) (by decide)) (by show _ = _; decide) true (by show _ = _; decide)).mono ?_
    rintro e w4 ⟨rfl, hb4⟩
    obtain ⟨K_i0, B_w4, l_w4⟩ := blk1 hb4
    replace G := Lib.hid (G.out.keep B_w4)
    replace I := Lib.hid (I.out.keep B_w4)
    replace J := Lib.hid (J.out.keep B_w4)
    replace IL := Lib.hid (IL.out.keep B_w4)
    replace GP := Lib.hid (GP.out.keep B_w4)
    replace K_c := Lib.hid (K_c.out.keep B_w4)
    replace K_f3 := Lib.hid (K_f3.out.keep B_w4)
    replace HB := Lib.hid (below_next HB.out B_w4)
    have K_i := Lib.hid K_i0
    clear hb4 B_w4 K_i0
    clear cK_c_0 cK_c_1 zK_c cK_f3_0 cK_f3_1 zK_f3
    have cK_c_0 := K_c.out.cell 0
    have cK_c_1 := K_c.out.cell 1
    simp at cK_c_0 cK_c_1
    have zK_c := K_c.out.lt
    have cK_f3_0 := K_f3.out.cell 0
    have cK_f3_1 := K_f3.out.cell 1
    simp at cK_f3_0 cK_f3_1
    have zK_f3 := K_f3.out.lt
    have cK_i_0 := K_i.out.cell 0
    simp at cK_i_0
    have zK_i := K_i.out.lt
    go_wp2_with fail
    obtain ⟨w5, hw5⟩ : ∃ w5 : World, w5 = (w4.alloc (.cells #[.int .i64 0, .int .i64 0] 28)) := ⟨_, rfl⟩
    have hbw5 : Below (w4.alloc (.cells #[.int .i64 0, .int .i64 0] 28)).heap.size (w4.alloc (.cells #[.int .i64 0, .int .i64 0] 28)) w5 := by rw [hw5]; exact Below.refl _ _
    rw [← hw5]
    clear hw5
    obtain ⟨K_g0, B_w5, l_w5⟩ := blk1 hbw5
    replace G := Lib.hid (G.out.keep B_w5)
    replace I := Lib.hid (I.out.keep B_w5)
    replace J := Lib.hid (J.out.keep B_w5)
    replace IL := Lib.hid (IL.out.keep B_w5)
    replace GP := Lib.hid (GP.out.keep B_w5)
    replace K_c := Lib.hid (K_c.out.keep B_w5)
    replace K_f3 := Lib.hid (K_f3.out.keep B_w5)
    replace K_i := Lib.hid (K_i.out.keep B_w5)
    replace HB := Lib.hid (below_next HB.out B_w5)
    have K_g := Lib.hid K_g0
    clear hbw5 B_w5 K_g0
    clear cK_c_0 cK_c_1 zK_c cK_f3_0 cK_f3_1 zK_f3 cK_i_0 zK_i
    have cK_c_0 := K_c.out.cell 0
    have cK_c_1 := K_c.out.cell 1
    simp at cK_c_0 cK_c_1
    have zK_c := K_c.out.lt
    have cK_f3_0 := K_f3.out.cell 0
    have cK_f3_1 := K_f3.out.cell 1
    simp at cK_f3_0 cK_f3_1
    have zK_f3 := K_f3.out.lt
    have cK_i_0 := K_i.out.cell 0
    simp at cK_i_0
    have zK_i := K_i.out.lt
    have cK_g_0 := K_g.out.cell 0
    have cK_g_1 := K_g.out.cell 1
    simp at cK_g_0 cK_g_1
    have zK_g := K_g.out.lt
    go_loopw [12] (fun i wr => ∃ k : Nat, k ≤ nl ∧ i = .int .i64 k ∧ Hid (∃ m, wr = w5.drewN m)) (fun i _ => nl - (intOf i).toNat)
    case atStart => exact ⟨0, Nat.zero_le _, rfl, ⟨0, rfl⟩⟩
    case round =>
      obtain ⟨k, hk, rfl, hB⟩ := hrel
      have hbW : Below w5.heap.size w5 wr := by obtain ⟨m, rfl⟩ := hB.out; exact below_drewN w5 m
      have e0 := keepBox hbW cK_c_0
      have e1 := keepBox hbW cK_c_1
      by_cases hlt : k < nl
      · obtain ⟨b, off, z, hLe, hb, hcell, z1, z2, hz⟩ := (IL.out.keep hbW).round hlt
        subst hLe
        have hzl := HLT.out.1 z (List.mem_of_getElem? hz.out)
        obtain ⟨hh1, hh2⟩ := lits_at HLT.out hz.out
        have HH1 := Lib.hid hh1
        have HH2 := Lib.hid hh2
        have HTK := Lib.hid ((IL.out.keep hbW).take (k := k) (by omega))
        have d0 : (z == 0) = false := by simpa using hzl.1
        have hna : ¬ vars < (z.natAbs : Int) := by omega
        have d3 : decide (vars < (z.natAbs : Int)) = false := decide_eq_false hna
        have y1 : (0 : Int) ≤ (k : Int) := by omega
        have y2 : (k : Int) < (nl : Int) := by omega
        have y3 : (k : Int) ≤ (cl : Int) := by omega
        have hm1 : -9223372036854775807 ≤ z ∧ z ≤ 9223372036854775807 := by omega
        clear hh1 hh2 hbW
        go_wp2_with fail
        go_quiet ((first | (go_at_call 16; exact RetQ.quiet (of_any z _ hm1.1 hm1.2)) | (go_at_call 31; refine RetQ.quiet (has_any _ _ _ (t.take k) _ _ (HTK.out.drewN _) false ?_); first | exact HH1 | exact HH2)))
        go_wp2_with fail
        go_roundw
        case rel => exact ⟨k + 1, by omega, by go_num, by obtain ⟨m, rfl⟩ := hB.out; exact ⟨_, World.drewN_drewN _ _ _⟩⟩
        case measure => simp [intOf]; omega
      · have hkn : k = nl := by omega
        subst hkn
        obtain ⟨w6, hw6⟩ : ∃ w6 : World, w6 = wr := ⟨_, rfl⟩
        subst hw6
        have IL6 := Lib.hid (IL.out.keep hbW)
        have I6 := Lib.hid (I.out.keep hbW)
        have G6 := Lib.hid (G.out.keep hbW)
        have J6 := Lib.hid (J.out.keep hbW)
        have HB6 := Lib.hid (below_next HB.out hbW)
        have lt6 : w.heap.size < w6.heap.size := (cell_lt e0).1
        clear hlt hB hbW
        by_cases hpv : (p : Int) = vars
        · have d2 : ((p : Int) != vars) = false := by simpa using hpv
          have HIN : Hid (∀ xs ∈ xss, InLits p xs) := fun xs hx => (HC.out xs hx).inLits hpv
          obtain ⟨q, hq⟩ : ∃ q, Hid (allB xss av = q) := ⟨_, rfl⟩
          go_wp2_with fail
          refine (all_ref _ _ _ _ _ _ xss av _ G6.out J6.out HIN.out q hq).mono ?_
          rintro e w7 hq7
          obtain ⟨rfl, hb7⟩ := hq7.v
          clear hq7
          cases q
          · go_wp2_with fail
            go_ret
            exact ⟨rfl, below_next HB6.out hb7⟩
          · have IL7 := Lib.hid (IL6.out.keep hb7)
            have I7 := Lib.hid (I6.out.keep hb7)
            have J7 := Lib.hid (J6.out.keep hb7)
            have HB7 := Lib.hid (below_next HB6.out hb7)
            have HLI : Hid (∀ x ∈ l, InLits p [x]) := fun x hx z hz => by
              have := HLL.out.1 x hx
              simp at hz
              subst hz
              exact ⟨this.1, by omega, by omega⟩
            have HTI : Hid (∀ x ∈ t, InLits p [x]) := fun x hx z hz => by
              have := HLT.out.1 x hx
              simp at hz
              subst hz
              exact ⟨this.1, by omega, by omega⟩
            clear hb7 IL6 I6 G6 J6
            go_wp2_with fail
            go_loopw [13] (fun i wr => ∃ j : Nat, j ≤ m ∧ i = .int .i64 j ∧ Hid (∃ m, wr = w7.drewN m) ∧ Hid (∀ x ∈ l.take j, litB av x = true)) (fun i _ => m - (intOf i).toNat)
            case atStart => exact ⟨0, Nat.zero_le _, rfl, ⟨0, rfl⟩, by simp [Hid]⟩
            case round =>
              obtain ⟨j, hj, rfl, hB, hall⟩ := hrel
              have hbW : Below w7.heap.size w7 wr := by obtain ⟨m, rfl⟩ := hB.out; exact below_drewN w7 m
              by_cases hlt : j < m
              · obtain ⟨b, off, z, hLe, hb, hcell, z1, z2, hz⟩ := (I7.out.keep hbW).round hlt
                subst hLe
                have HO := Lib.hid ((I7.out.keep hbW).one hz.out hlt)
                obtain ⟨s, hs⟩ : ∃ s, Hid (satB av [z] = s) := ⟨_, rfl⟩
                have y1 : (0 : Int) ≤ (j : Int) := by omega
                have y2 : (j : Int) + 1 ≤ (d : Int) := by omega
                go_wp2_with fail
                refine (sat_ref _ _ _ _ _ _ [z] av _ HO.out (J7.out.keep hbW) (HLI.out z (List.mem_of_getElem? hz.out)) s hs).mono ?_
                rintro e w8 ⟨rfl, m8, rfl⟩
                cases s
                · go_wp2_with fail
                  go_ret
                  exact ⟨rfl, below_next (below_next HB7.out hbW) (below_drewN _ _)⟩
                · go_wp2_with fail
                  go_roundw
                  case rel =>
                    refine ⟨j + 1, by omega, by go_num, (by obtain ⟨m, rfl⟩ := hB.out; exact ⟨_, World.drewN_drewN _ _ _⟩), ?_⟩
                    intro x hx
                    rw [take_snoc_of hz.out] at hx
                    rcases List.mem_append.1 hx with hx | hx
                    · exact hall.out x hx
                    · simp at hx
                      subst hx
                      have := hs.out
                      rw [sat_one] at this
                      exact this
                  case measure => simp [intOf]; omega
              · have hsd := ask_sound HC.out ha.out hq.out (fun x hx => hall.out x (by rw [List.take_of_length_le (by rw [hlB.out]; omega)]; exact hx))
                obtain ⟨rfl, hst⟩ := hsd
                have HST := Lib.hid hst
                obtain ⟨w8, hw8⟩ : ∃ w8 : World, w8 = wr := ⟨_, rfl⟩
                subst hw8
                have IL8 := Lib.hid (IL7.out.keep hbW)
                have J8 := Lib.hid (J7.out.keep hbW)
                have HB8 := Lib.hid (below_next HB7.out hbW)
                clear hst hB hbW hall IL7 I7 J7
                go_wp2_with fail
                clear hlt
                go_loopw [14] (fun i wr => ∃ j : Nat, j ≤ k ∧ i = .int .i64 j ∧ Hid (∃ m, wr = w8.drewN m)) (fun i _ => k - (intOf i).toNat)
                case atStart => exact ⟨0, Nat.zero_le _, rfl, ⟨0, rfl⟩⟩
                case round =>
                  obtain ⟨j2, hj2, rfl, hB⟩ := hrel
                  have hbW : Below w8.heap.size w8 wr := by obtain ⟨m, rfl⟩ := hB.out; exact below_drewN w8 m
                  by_cases hlt : j2 < k
                  · obtain ⟨b, off, z, hLe, hb, hcell, z1, z2, hz⟩ := (IL8.out.keep hbW).round hlt
                    subst hLe
                    have hzm := List.mem_of_getElem? hz.out
                    have HO := Lib.hid ((IL8.out.keep hbW).one hz.out hlt)
                    have hs : Hid (satB av [z] = true) := by rw [sat_one]; exact HST.out z hzm
                    have y1 : (0 : Int) ≤ (j2 : Int) := by omega
                    have y2 : (j2 : Int) + 1 ≤ (cl : Int) := by omega
                    clear hzm
                    go_wp2_with fail
                    refine (sat_ref _ _ _ _ _ _ [z] av _ HO.out (J8.out.keep hbW) (HTI.out z (List.mem_of_getElem? hz.out)) true hs).mono ?_
                    rintro e w9 ⟨rfl, m9, rfl⟩
                    go_wp2_with fail
                    go_roundw
                    case rel => exact ⟨j2 + 1, by omega, by go_num, by obtain ⟨m, rfl⟩ := hB.out; exact ⟨_, World.drewN_drewN _ _ _⟩⟩
                    case measure => simp [intOf]; omega
                  · go_wp2_with fail
                    go_ret
                    exact ⟨rfl, below_next HB8.out hbW⟩
        · have d2 : ((p : Int) != vars) = true := by simpa using hpv
          go_wp2_with fail
          go_ret
          exact ⟨rfl, HB6.out⟩
  · have d1 : (r1 != 0) = true := by simpa using hr1
    go_enter Try.func10, Try.ntmps10
    go_wp2_with fail
    refine (heavy_any _ _ _ _ _ hn63 _ hhv).mono ?_
    rintro e w1 ⟨rfl, hb1⟩
    obtain ⟨K_c0, B_w1, l_w1⟩ := blk1 hb1
    replace G := Lib.hid (G.out.keep B_w1)
    replace I := Lib.hid (I.out.keep B_w1)
    replace J := Lib.hid (J.out.keep B_w1)
    have HB := Lib.hid B_w1
    have K_c := Lib.hid K_c0
    clear hb1 B_w1 K_c0
    have cK_c_0 := K_c.out.cell 0
    have cK_c_1 := K_c.out.cell 1
    simp at cK_c_0 cK_c_1
    have zK_c := K_c.out.lt
    go_wp2_with fail
    refine (propDo_wrong _ _ _ _ _ _ xss l vars _ G.out hv I.out r1 r2 hr hr1).mono ?_
    rintro e w2 ⟨rfl, hb2⟩
    have B_w2 := hb2
    replace G := Lib.hid (G.out.keep B_w2)
    replace I := Lib.hid (I.out.keep B_w2)
    replace J := Lib.hid (J.out.keep B_w2)
    replace K_c := Lib.hid (K_c.out.keep B_w2)
    replace HB := Lib.hid (below_next HB.out B_w2)
    clear hb2 B_w2
    clear cK_c_0 cK_c_1 zK_c
    have cK_c_0 := K_c.out.cell 0
    have cK_c_1 := K_c.out.cell 1
    simp at cK_c_0 cK_c_1
    have zK_c := K_c.out.lt
    go_wp2_with fail
    go_ret
    exact ⟨rfl, below_next HB.out (below_new _ _)⟩
end Go.Proofs.Ytghebbkpdldjfaa
