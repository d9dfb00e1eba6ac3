/- The walk of PropProbes: it returns true. (Printed by wip/tools/proplaws2.py.) -/
import Derived.Test.YtghebbkpdldjfaaProp
import Derived.Test.YtghebbkpdldjfaaPropPlain
import Derived.Test.YtghebbkpdldjfaaSat
import Derived.Test.YtghebbkpdldjfaaHolds
import Derived.Test.YtghebbkpdldjfaaTail
import Derived.Test.YtghebbkpdldjfaaProbe
namespace Go.Proofs.Ytghebbkpdldjfaa
open Go.RowKit
set_option linter.unusedSimpArgs false

set_option maxHeartbeats 8000000 in
set_option maxRecDepth 100000 in
theorem propProbes_walk {vars : Int} {A : Option Addr} {n c : Nat} {xss : List (List Int)} (w : World) (hv : I64 vars) (h : Grid w A n c xss) :
    Calls Try.prog 6 #[.agg #[.int .i64 vars, .slice A n c]] w fun e w' => e = .returned (.bool true) ∧ Below w.heap.size w w' := by
  have hbd := h.bd
  have G := Lib.hid h
  have hn63 : n ≤ 9223372036854775807 := by omega
  obtain ⟨i0, hi0, hz0, hz1, hz2⟩ := info_parts int_info
  obtain ⟨hvy, hhv⟩ : ∃ r, Hid ((decide (40 < vars) || decide (60 < (n : Int))) = r) := ⟨_, rfl⟩
  obtain ⟨r1, r2, hr⟩ : ∃ r1 r2, Hid (checkC vars xss = (r1, r2)) := ⟨_, _, rfl⟩
  clear h
  cases hvy
  rotate_left
  · go_enter Try.func6, Try.ntmps6
    go_wp2_with fail
    refine (heavy_any _ _ _ _ _ hn63 _ hhv).mono ?_
    rintro e w1 ⟨rfl, hb1⟩
    obtain ⟨K_c0, B_w1, l_w1⟩ := blk1 hb1
    replace G := Lib.hid (G.out.keep B_w1)
    have HB := Lib.hid B_w1
    have K_c := Lib.hid K_c0
    clear hb1 B_w1 K_c0
    have cK_c_0 := K_c.out.cell 0
    have cK_c_1 := K_c.out.cell 1
    simp at cK_c_0 cK_c_1
    have zK_c := K_c.out.lt
    go_wp2_with fail
    go_ret
    exact ⟨rfl, HB.out⟩
  by_cases hr1 : r1 = 0
  · subst hr1
    obtain ⟨hr0, v0, v1, hn400, hrows⟩ := checkC_ok (vars := vars) (xss := xss) (by rw [hr.out])
    obtain rfl : r2 = 0 := by rw [hr.out] at hr0; simpa using hr0
    have v6 : vars ≤ 1000000 := by omega
    have HC : Hid (∀ x ∈ xss, Lits vars x) := fun x hx => (hrows x hx).2
    clear hr0 hrows hn400
    go_enter Try.func6, Try.ntmps6
    go_wp2_with fail
    refine (heavy_any _ _ _ _ _ hn63 _ hhv).mono ?_
    rintro e w1 ⟨rfl, hb1⟩
    obtain ⟨K_c0, B_w1, l_w1⟩ := blk1 hb1
    replace G := Lib.hid (G.out.keep B_w1)
    have HB := Lib.hid B_w1
    have K_c := Lib.hid K_c0
    clear hb1 B_w1 K_c0
    have cK_c_0 := K_c.out.cell 0
    have cK_c_1 := K_c.out.cell 1
    simp at cK_c_0 cK_c_1
    have zK_c := K_c.out.lt
    go_wp2_with fail
    refine (probe_own _ _ _ xss vars _ G.out hv hr).mono ?_
    rintro e w2 ⟨L, nL, cL, rfl, hI2, hb2⟩
    have B_w2 := hb2
    replace G := Lib.hid (G.out.keep B_w2)
    replace K_c := Lib.hid (K_c.out.keep B_w2)
    replace HB := Lib.hid (below_next HB.out B_w2)
    clear hb2 B_w2
    clear cK_c_0 cK_c_1 zK_c
    have cK_c_0 := K_c.out.cell 0
    have cK_c_1 := K_c.out.cell 1
    simp at cK_c_0 cK_c_1
    have zK_c := K_c.out.lt
    have IL := Lib.hid hI2
    clear hI2
    go_wp2_with fail
    refine (check_ref _ _ _ xss vars _ (G.out.keep (below_new _ _)) hv _ _ hr).mono ?_
    rintro e w3 ⟨rfl, hb3⟩
    obtain ⟨K_f0, B_w3, l_w3⟩ := blk1 hb3
    replace G := Lib.hid (G.out.keep B_w3)
    replace IL := Lib.hid (IL.out.keep B_w3)
    replace K_c := Lib.hid (K_c.out.keep B_w3)
    replace HB := Lib.hid (below_next HB.out B_w3)
    have K_f := Lib.hid K_f0
    clear hb3 B_w3 K_f0
    clear cK_c_0 cK_c_1 zK_c
    have cK_c_0 := K_c.out.cell 0
    have cK_c_1 := K_c.out.cell 1
    simp at cK_c_0 cK_c_1
    have zK_c := K_c.out.lt
    have cK_f_0 := K_f.out.cell 0
    have cK_f_1 := K_f.out.cell 1
    simp at cK_f_0 cK_f_1
    have zK_f := K_f.out.lt
    go_wp2_with fail
    obtain ⟨w4, hw4⟩ : ∃ w4 : World, w4 = (w3.alloc (.cells #[.int .i64 0, .int .i64 0] 28)) := ⟨_, rfl⟩
    have hbw4 : Below (w3.alloc (.cells #[.int .i64 0, .int .i64 0] 28)).heap.size (w3.alloc (.cells #[.int .i64 0, .int .i64 0] 28)) w4 := by rw [hw4]; exact Below.refl _ _
    rw [← hw4]
    clear hw4
    obtain ⟨K_x0, B_w4, l_w4⟩ := blk1 hbw4
    replace G := Lib.hid (G.out.keep B_w4)
    replace IL := Lib.hid (IL.out.keep B_w4)
    replace K_c := Lib.hid (K_c.out.keep B_w4)
    replace K_f := Lib.hid (K_f.out.keep B_w4)
    replace HB := Lib.hid (below_next HB.out B_w4)
    have K_x := Lib.hid K_x0
    clear hbw4 B_w4 K_x0
    clear cK_c_0 cK_c_1 zK_c cK_f_0 cK_f_1 zK_f
    have cK_c_0 := K_c.out.cell 0
    have cK_c_1 := K_c.out.cell 1
    simp at cK_c_0 cK_c_1
    have zK_c := K_c.out.lt
    have cK_f_0 := K_f.out.cell 0
    have cK_f_1 := K_f.out.cell 1
    simp at cK_f_0 cK_f_1
    have zK_f := K_f.out.lt
    have cK_x_0 := K_x.out.cell 0
    have cK_x_1 := K_x.out.cell 1
    simp at cK_x_0 cK_x_1
    have zK_x := K_x.out.lt
    go_loopw [6, 7] (fun o v wr => ∃ (j m nl cl : Nat) (Lf : Option Addr) (ys : List Int), (j : Int) + m = vars ∧ nl ≤ 2 * j ∧ o = .slice Lf nl cl ∧ v = .int .i64 (j + 1) ∧ Hid (Below w4.heap.size w4 wr) ∧ Hid (Own 3 wr w4.heap.size Lf nl cl (ys.map (Value.int .i64))) ∧ Hid (∀ y ∈ ys, I64 y) ∧ Hid (ys ++ (cndF m (j + 1)).filter (fun l => fallsF vars xss [l]) = probeF vars xss)) (fun _ v _ => (vars + 1 - intOf v).toNat)
    case atStart => exact ⟨0, vars.toNat, 0, 0, none, [], by omega, Nat.zero_le _, rfl, rfl, Below.refl _ _, Own.nil _ _ _, by simp [Hid], by simp [Hid, probeF]⟩
    case round =>
      obtain ⟨j, m, nl, cl, Lf, ys, hjm, hnl, rfl, rfl, hbl, hown, hys, hdone⟩ := hrel
      have e0 := keepBox hbl.out cK_c_0
      have e1 := keepBox hbl.out cK_c_1
      have zc : w.heap.size < wr.heap.size := (cell_lt e0).1
      by_cases hlt : (j : Int) + 1 ≤ vars
      · obtain ⟨m', rfl⟩ : ∃ m', m = m' + 1 := ⟨m - 1, by omega⟩
        have HY1 : Hid (Lits vars [(j : Int) + 1]) := lits1 (by omega) (by omega)
        have HY2 : Hid (Lits vars [-((j : Int) + 1)]) := lits1 (by omega) (by omega)
        obtain ⟨q1, hq1⟩ : ∃ q, Hid (fallsF vars xss [(j : Int) + 1] = q) := ⟨_, rfl⟩
        obtain ⟨q2, hq2⟩ : ∃ q, Hid (fallsF vars xss [-((j : Int) + 1)] = q) := ⟨_, rfl⟩
        have hdone2 : Hid (ys ++ ((if q1 then [(j : Int) + 1] else []) ++ ((if q2 then [-((j : Int) + 1)] else []) ++ (cndF m' ((j : Int) + 1 + 1)).filter (fun l => fallsF vars xss [l]))) = probeF vars xss) := by
          have := hdone.out
          rw [cndF, List.filter_cons, List.filter_cons, hq1.out, hq2.out] at this
          show _ = _
          cases q1 <;> cases q2 <;> simpa using this
        have hz64 : Hid (I64 ((j : Int) + 1) ∧ I64 (-((j : Int) + 1))) := by unfold Hid I64; omega
        clear hdone
        go_wp2_with fail
        refine (fallsR_any _ _ _ _ _ _ xss [(j : Int) + 1] vars _ ((G.out.keep hbl.out).keep (below_new _ _)) (ints_made wr 3 [(j : Int) + 1] rfl (by simp [I64]; omega) (by simp [maxLen])) v0 v6 HC.out HY1.out q1 hq1).mono ?_
        rintro e wa ⟨rfl, hba⟩
        obtain ⟨_, Ba, la⟩ := blk1 hba
        have HBwa := Lib.hid (below_next hbl.out Ba)
        have hown1 := Lib.hid (hown.out.keep Ba)
        have a0 := keepBox HBwa.out cK_c_0
        have a1 := keepBox HBwa.out cK_c_1
        have za : w.heap.size < wa.heap.size := (cell_lt a0).1
        have sa := HBwa.out.size
        clear hba Ba hown hbl e0 e1
        cases q1
        · go_wp2_with fail
          refine (fallsR_any _ _ _ _ _ _ xss [-((j : Int) + 1)] vars _ ((G.out.keep HBwa.out).keep (below_new _ _)) (ints_made wa 3 [-((j : Int) + 1)] rfl (by simp [I64]; omega) (by simp [maxLen])) v0 v6 HC.out HY2.out q2 hq2).mono ?_
          rintro e wb ⟨rfl, hbb⟩
          obtain ⟨_, Bb, lb⟩ := blk1 hbb
          have HBwb := Lib.hid (below_next HBwa.out Bb)
          have hown2 := Lib.hid (hown1.out.keep Bb)
          have b0 := keepBox HBwb.out cK_c_0
          have b1 := keepBox HBwb.out cK_c_1
          have zb : w.heap.size < wb.heap.size := (cell_lt b0).1
          have sb := HBwb.out.size
          clear hbb Bb hown1
          cases q2
          · go_wp2_with fail
            go_roundw
            case rel =>
              refine ⟨j + 1, m', nl, cl, Lf, ys, by omega, by omega, rfl, by go_num, HBwb, hown2, ?_, ?_⟩
              · exact hys.out
              · have := hdone2.out
                show _ = _
                simpa using this
            case measure => simp [intOf]; omega
          · go_wp2_with (first
              | (at_builtin
                 refine wpList_append_sl _ rfl (.tmp 51) (.tmp 54) _ rfl w4.heap.size 3 i0 _ 8 Try.underlying25 hi0 hz0 hz1 hz2 rfl Lf nl cl _ rfl (hown2.out.keep (below_new _ _)) (some ⟨wb.heap.size, 0, none⟩) 1 1 _ rfl (ints_made wb 3 [-((j : Int) + 1)] rfl (by simp [I64]; omega) (by simp [maxLen])).sl (ints_one _) (by simp only [maxLen]; omega) (by omega) (by simp; omega) ?_
                 intro L2 cL2 u2 hL2 hg2 hat2
                 have HL2 := Lib.hid hL2
                 have HU2 := Lib.hid (below_grown (below_alloc HBwb.out (.cells #[.int .i64 (-((j : Int) + 1))] 3)) (hown2.out.keep (below_new wb (.cells #[.int .i64 (-((j : Int) + 1))] 3))) (Nat.le_refl _) hg2)
                 have e2 := keepBox HU2.out cK_c_1
                 have z2 : w.heap.size < u2.heap.size := (cell_lt e2).1
                 have s2 := HU2.out.size
                 clear hL2 hg2 hat2))
            go_roundw
            case rel =>
              refine ⟨j + 1, m', nl + 1, cL2, L2, ys ++ [-((j : Int) + 1)], by omega, by omega, rfl, by go_num, HU2, (by rw [List.map_append]; exact HL2.out), ?_, ?_⟩
              · intro z hz
                simp only [List.mem_append, List.mem_singleton, or_assoc] at hz
                rcases hz with hz | hz
                · exact hys.out z hz
                · subst hz; exact hz64.out.2
              · have := hdone2.out
                show _ = _
                simpa using this
            case measure => simp [intOf]; omega
        · go_wp2_with (first
            | (at_builtin
               refine wpList_append_sl _ rfl (.tmp 41) (.tmp 43) _ rfl w4.heap.size 3 i0 _ 8 Try.underlying25 hi0 hz0 hz1 hz2 rfl Lf nl cl _ rfl (hown1.out.keep (below_new _ _)) (some ⟨wa.heap.size, 0, none⟩) 1 1 _ rfl (ints_made wa 3 [(j : Int) + 1] rfl (by simp [I64]; omega) (by simp [maxLen])).sl (ints_one _) (by simp only [maxLen]; omega) (by omega) (by simp; omega) ?_
               intro L1 cL1 u1 hL1 hg1 hat1
               have HL1 := Lib.hid hL1
               have HU1 := Lib.hid (below_grown (below_alloc HBwa.out (.cells #[.int .i64 ((j : Int) + 1)] 3)) (hown1.out.keep (below_new wa (.cells #[.int .i64 ((j : Int) + 1)] 3))) (Nat.le_refl _) hg1)
               have e1 := keepBox HU1.out cK_c_1
               have z1 : w.heap.size < u1.heap.size := (cell_lt e1).1
               have s1 := HU1.out.size
               clear hL1 hg1 hat1))
          have hown3 : Hid (Own 3 u1 w4.heap.size L1 (nl + 1) cL1 ((ys ++ [(j : Int) + 1]).map (Value.int .i64))) := by rw [List.map_append]; exact HL1.out
          have HBu1 := HU1
          go_wp2_with fail
          refine (fallsR_any _ _ _ _ _ _ xss [-((j : Int) + 1)] vars _ ((G.out.keep HBu1.out).keep (below_new _ _)) (ints_made u1 3 [-((j : Int) + 1)] rfl (by simp [I64]; omega) (by simp [maxLen])) v0 v6 HC.out HY2.out q2 hq2).mono ?_
          rintro e wb ⟨rfl, hbb⟩
          obtain ⟨_, Bb, lb⟩ := blk1 hbb
          have HBwb := Lib.hid (below_next HBu1.out Bb)
          have hown2 := Lib.hid (hown3.out.keep Bb)
          have b0 := keepBox HBwb.out cK_c_0
          have b1 := keepBox HBwb.out cK_c_1
          have zb : w.heap.size < wb.heap.size := (cell_lt b0).1
          have sb := HBwb.out.size
          clear hbb Bb hown3
          cases q2
          · go_wp2_with fail
            go_roundw
            case rel =>
              refine ⟨j + 1, m', (nl + 1), cL1, L1, (ys ++ [(j : Int) + 1]), by omega, by omega, rfl, by go_num, HBwb, hown2, ?_, ?_⟩
              · intro z hz
                simp only [List.mem_append, List.mem_singleton, or_assoc] at hz
                rcases hz with hz | hz
                · exact hys.out z hz
                · subst hz; exact hz64.out.1
              · have := hdone2.out
                show _ = _
                simpa using this
            case measure => simp [intOf]; omega
          · go_wp2_with (first
              | (at_builtin
                 refine wpList_append_sl _ rfl (.tmp 51) (.tmp 54) _ rfl w4.heap.size 3 i0 _ 8 Try.underlying25 hi0 hz0 hz1 hz2 rfl L1 (nl + 1) cL1 _ rfl (hown2.out.keep (below_new _ _)) (some ⟨wb.heap.size, 0, none⟩) 1 1 _ rfl (ints_made wb 3 [-((j : Int) + 1)] rfl (by simp [I64]; omega) (by simp [maxLen])).sl (ints_one _) (by simp only [maxLen]; omega) (by omega) (by simp; omega) ?_
                 intro L2 cL2 u2 hL2 hg2 hat2
                 have HL2 := Lib.hid hL2
                 have HU2 := Lib.hid (below_grown (below_alloc HBwb.out (.cells #[.int .i64 (-((j : Int) + 1))] 3)) (hown2.out.keep (below_new wb (.cells #[.int .i64 (-((j : Int) + 1))] 3))) (Nat.le_refl _) hg2)
                 have e2 := keepBox HU2.out cK_c_1
                 have z2 : w.heap.size < u2.heap.size := (cell_lt e2).1
                 have s2 := HU2.out.size
                 clear hL2 hg2 hat2))
            go_roundw
            case rel =>
              refine ⟨j + 1, m', (nl + 1) + 1, cL2, L2, (ys ++ [(j : Int) + 1]) ++ [-((j : Int) + 1)], by omega, by omega, rfl, by go_num, HU2, (by rw [List.map_append]; exact HL2.out), ?_, ?_⟩
              · intro z hz
                simp only [List.mem_append, List.mem_singleton, or_assoc] at hz
                rcases hz with hz | hz | hz
                · exact hys.out z hz
                · subst hz; exact hz64.out.1
                · subst hz; exact hz64.out.2
              · have := hdone2.out
                show _ = _
                simpa using this
            case measure => simp [intOf]; omega
      · have hm0 : m = 0 := by omega
        subst hm0
        have hres : Hid (ys = probeF vars xss) := by have := hdone.out; simpa [cndF, Hid] using this
        have IW := Lib.hid (hown.out.ints hys.out)
        obtain ⟨w5, hw5⟩ : ∃ w5 : World, w5 = wr := ⟨_, rfl⟩
        subst hw5
        have hb5 := hbl.out
        rw [hres.out] at IW
        clear hown hys hbl hdone e0 e1
        have B_w5 := hb5
        replace G := Lib.hid (G.out.keep B_w5)
        replace IL := Lib.hid (IL.out.keep B_w5)
        replace K_c := Lib.hid (K_c.out.keep B_w5)
        replace K_f := Lib.hid (K_f.out.keep B_w5)
        replace K_x := Lib.hid (K_x.out.keep B_w5)
        replace HB := Lib.hid (below_next HB.out B_w5)
        clear hb5 B_w5
        clear cK_c_0 cK_c_1 zK_c cK_f_0 cK_f_1 zK_f cK_x_0 cK_x_1 zK_x
        have cK_c_0 := K_c.out.cell 0
        have cK_c_1 := K_c.out.cell 1
        simp at cK_c_0 cK_c_1
        have zK_c := K_c.out.lt
        have cK_f_0 := K_f.out.cell 0
        have cK_f_1 := K_f.out.cell 1
        simp at cK_f_0 cK_f_1
        have zK_f := K_f.out.lt
        have cK_x_0 := K_x.out.cell 0
        have cK_x_1 := K_x.out.cell 1
        simp at cK_x_0 cK_x_1
        have zK_x := K_x.out.lt
        go_wp2_with fail
        refine (pair_any _).mono ?_
        rintro e w6 ⟨A5, n5, c5, rfl, hG5, hb6⟩
        have B_w6 := hb6
        replace G := Lib.hid (G.out.keep B_w6)
        replace IL := Lib.hid (IL.out.keep B_w6)
        replace IW := Lib.hid (IW.out.keep B_w6)
        replace K_c := Lib.hid (K_c.out.keep B_w6)
        replace K_f := Lib.hid (K_f.out.keep B_w6)
        replace K_x := Lib.hid (K_x.out.keep B_w6)
        replace HB := Lib.hid (below_next HB.out B_w6)
        clear hb6 B_w6
        clear cK_c_0 cK_c_1 zK_c cK_f_0 cK_f_1 zK_f cK_x_0 cK_x_1 zK_x
        have cK_c_0 := K_c.out.cell 0
        have cK_c_1 := K_c.out.cell 1
        simp at cK_c_0 cK_c_1
        have zK_c := K_c.out.lt
        have cK_f_0 := K_f.out.cell 0
        have cK_f_1 := K_f.out.cell 1
        simp at cK_f_0 cK_f_1
        have zK_f := K_f.out.lt
        have cK_x_0 := K_x.out.cell 0
        have cK_x_1 := K_x.out.cell 1
        simp at cK_x_0 cK_x_1
        have zK_x := K_x.out.lt
        have GP := Lib.hid hG5
        clear hG5
        go_wp2_with fail
        refine (probe_own _ _ _ [[1, 2], [-1]] 2 _ GP.out ⟨by omega, by omega⟩ (by show _ = _; decide)).mono ?_
        rintro e w7 ⟨L7, n7, c7, rfl, hI7, hb7⟩
        have B_w7 := hb7
        replace G := Lib.hid (G.out.keep B_w7)
        replace IL := Lib.hid (IL.out.keep B_w7)
        replace IW := Lib.hid (IW.out.keep B_w7)
        replace GP := Lib.hid (GP.out.keep B_w7)
        replace K_c := Lib.hid (K_c.out.keep B_w7)
        replace K_f := Lib.hid (K_f.out.keep B_w7)
        replace K_x := Lib.hid (K_x.out.keep B_w7)
        replace HB := Lib.hid (below_next HB.out B_w7)
        clear hb7 B_w7
        clear cK_c_0 cK_c_1 zK_c cK_f_0 cK_f_1 zK_f cK_x_0 cK_x_1 zK_x
        have cK_c_0 := K_c.out.cell 0
        have cK_c_1 := K_c.out.cell 1
        simp at cK_c_0 cK_c_1
        have zK_c := K_c.out.lt
        have cK_f_0 := K_f.out.cell 0
        have cK_f_1 := K_f.out.cell 1
        simp at cK_f_0 cK_f_1
        have zK_f := K_f.out.lt
        have cK_x_0 := K_x.out.cell 0
        have cK_x_1 := K_x.out.cell 1
        simp at cK_x_0 cK_x_1
        have zK_x := K_x.out.lt
        have IO : Hid (Ints w7 L7 n7 c7 [-1, 2]) := hI7
        clear hI7
        go_wp2_with fail
        refine (same_any _ _ _ _ _ _ (probeF vars xss) (probeF vars xss) _ (IL.out.keep (below_new _ _)) (IW.out.keep (below_new _ _)) true (by show _ = _; simp [sameB])).mono ?_
        rintro e w8 hq8
        obtain ⟨rfl, hb8⟩ := hq8.v
        clear hq8
        obtain ⟨K_g0, B_w8, l_w8⟩ := blk1 hb8
        replace G := Lib.hid (G.out.keep B_w8)
        replace IL := Lib.hid (IL.out.keep B_w8)
        replace IW := Lib.hid (IW.out.keep B_w8)
        replace GP := Lib.hid (GP.out.keep B_w8)
        replace IO := Lib.hid (IO.out.keep B_w8)
        replace K_c := Lib.hid (K_c.out.keep B_w8)
        replace K_f := Lib.hid (K_f.out.keep B_w8)
        replace K_x := Lib.hid (K_x.out.keep B_w8)
        replace HB := Lib.hid (below_next HB.out B_w8)
        have K_g := Lib.hid K_g0
        clear hb8 B_w8 K_g0
        clear cK_c_0 cK_c_1 zK_c cK_f_0 cK_f_1 zK_f cK_x_0 cK_x_1 zK_x
        have cK_c_0 := K_c.out.cell 0
        have cK_c_1 := K_c.out.cell 1
        simp at cK_c_0 cK_c_1
        have zK_c := K_c.out.lt
        have cK_f_0 := K_f.out.cell 0
        have cK_f_1 := K_f.out.cell 1
        simp at cK_f_0 cK_f_1
        have zK_f := K_f.out.lt
        have cK_x_0 := K_x.out.cell 0
        have cK_x_1 := K_x.out.cell 1
        simp at cK_x_0 cK_x_1
        have zK_x := K_x.out.lt
        have cK_g_0 := K_g.out.cell 0
        have cK_g_1 := K_g.out.cell 1
        simp at cK_g_0 cK_g_1
        have zK_g := K_g.out.lt
        go_wp2_with fail
        refine (same_any _ _ _ _ _ _ [-1, 2] [-1, 2] _ (IO.out.keep (below_new _ _)) (ints_made _ 3 [-1, 2] (by simp) (by simp [I64]) (by decide)) true (by show _ = _; rfl)).mono ?_
        rintro e w9 hq9
        obtain ⟨rfl, hb9⟩ := hq9.v
        clear hq9
        obtain ⟨K_o0, B_w9, l_w9⟩ := blk1 hb9
        replace G := Lib.hid (G.out.keep B_w9)
        replace IL := Lib.hid (IL.out.keep B_w9)
        replace IW := Lib.hid (IW.out.keep B_w9)
        replace GP := Lib.hid (GP.out.keep B_w9)
        replace IO := Lib.hid (IO.out.keep B_w9)
        replace K_c := Lib.hid (K_c.out.keep B_w9)
        replace K_f := Lib.hid (K_f.out.keep B_w9)
        replace K_x := Lib.hid (K_x.out.keep B_w9)
        replace K_g := Lib.hid (K_g.out.keep B_w9)
        replace HB := Lib.hid (below_next HB.out B_w9)
        have K_o := Lib.hid K_o0
        clear hb9 B_w9 K_o0
        clear cK_c_0 cK_c_1 zK_c cK_f_0 cK_f_1 zK_f cK_x_0 cK_x_1 zK_x cK_g_0 cK_g_1 zK_g
        have cK_c_0 := K_c.out.cell 0
        have cK_c_1 := K_c.out.cell 1
        simp at cK_c_0 cK_c_1
        have zK_c := K_c.out.lt
        have cK_f_0 := K_f.out.cell 0
        have cK_f_1 := K_f.out.cell 1
        simp at cK_f_0 cK_f_1
        have zK_f := K_f.out.lt
        have cK_x_0 := K_x.out.cell 0
        have cK_x_1 := K_x.out.cell 1
        simp at cK_x_0 cK_x_1
        have zK_x := K_x.out.lt
        have cK_g_0 := K_g.out.cell 0
        have cK_g_1 := K_g.out.cell 1
        simp at cK_g_0 cK_g_1
        have zK_g := K_g.out.lt
        have cK_o_0 := K_o.out.cell 0
        have cK_o_1 := K_o.out.cell 1
        simp at cK_o_0 cK_o_1
        have zK_o := K_o.out.lt
        go_wp2_with fail
        go_ret
        exact ⟨rfl, HB.out⟩
  · have d1 : (r1 != 0) = true := by simpa using hr1
    go_enter Try.func6, Try.ntmps6
    go_wp2_with fail
    refine (heavy_any _ _ _ _ _ hn63 _ hhv).mono ?_
    rintro e w1 ⟨rfl, hb1⟩
    obtain ⟨K_c0, B_w1, l_w1⟩ := blk1 hb1
    replace G := Lib.hid (G.out.keep B_w1)
    have HB := Lib.hid B_w1
    have K_c := Lib.hid K_c0
    clear hb1 B_w1 K_c0
    have cK_c_0 := K_c.out.cell 0
    have cK_c_1 := K_c.out.cell 1
    simp at cK_c_0 cK_c_1
    have zK_c := K_c.out.lt
    go_wp2_with fail
    refine (probe_wrong _ _ _ xss vars _ G.out hv r1 r2 hr hr1).mono ?_
    rintro e w2 ⟨rfl, hb2⟩
    have B_w2 := hb2
    replace G := Lib.hid (G.out.keep B_w2)
    replace K_c := Lib.hid (K_c.out.keep B_w2)
    replace HB := Lib.hid (below_next HB.out B_w2)
    clear hb2 B_w2
    clear cK_c_0 cK_c_1 zK_c
    have cK_c_0 := K_c.out.cell 0
    have cK_c_1 := K_c.out.cell 1
    simp at cK_c_0 cK_c_1
    have zK_c := K_c.out.lt
    go_wp2_with fail
    refine (check_ref _ _ _ xss vars _ (G.out.keep (below_new _ _)) hv _ _ hr).mono ?_
    rintro e w3 ⟨rfl, hb3⟩
    obtain ⟨K_f0, B_w3, l_w3⟩ := blk1 hb3
    replace G := Lib.hid (G.out.keep B_w3)
    replace K_c := Lib.hid (K_c.out.keep B_w3)
    replace HB := Lib.hid (below_next HB.out B_w3)
    have K_f := Lib.hid K_f0
    clear hb3 B_w3 K_f0
    clear cK_c_0 cK_c_1 zK_c
    have cK_c_0 := K_c.out.cell 0
    have cK_c_1 := K_c.out.cell 1
    simp at cK_c_0 cK_c_1
    have zK_c := K_c.out.lt
    have cK_f_0 := K_f.out.cell 0
    have cK_f_1 := K_f.out.cell 1
    simp at cK_f_0 cK_f_1
    have zK_f := K_f.out.lt
    go_wp2_with fail
    go_ret
    exact ⟨rfl, below_next HB.out (below_new _ _)⟩
end Go.Proofs.Ytghebbkpdldjfaa
