/- The walk of the law SubPures. -/
import Derived.Test.YtehhhidjgngibaaPure
import Derived.Test.YtehhhidjgngibaaHolds
import Derived.Test.YtehhhidjgngibaaRefA
namespace Go.Proofs.Ytehhhidjgngibaa
open Go.RowKit

theorem hasB_flat {xss : List (List Int)} {k : Nat} {xs : List Int} (h : xss[k]? = some xs) (x : Int) : hasB (xss.take (k + 1)).flatten x = (hasB (xss.take k).flatten x || hasB xs x) := by
  rw [flatten_take_len h, hasB_append]

set_option maxHeartbeats 4000000 in
set_option maxRecDepth 100000 in
theorem subPures_walk {vars : Int} {A : Option Addr} {n c : Nat} {xss : List (List Int)} (w : World) (hv : I64 vars) (h : Grid w A n c xss) :
    Calls Try.prog 13 #[.agg #[.int .i64 vars, .slice A n c]] w fun e w' => e = .returned (.bool true) ∧ Below w.heap.size w w' := by
  have hbd := h.bd
  have hlen := Lib.hid h.len
  obtain ⟨r1, r2, hr⟩ : ∃ r1 r2, Hid (checkC vars xss = (r1, r2)) := ⟨_, _, rfl⟩
  have hk := h.keep (below_new w (.cells #[.int .i64 vars, .slice A n c] 41))
  by_cases hr1 : r1 = 0
  · subst hr1
    obtain ⟨hr0, v0, v1, hn400, hrows⟩ := checkC_ok (vars := vars) (xss := xss) (by rw [hr.out])
    obtain rfl : r2 = 0 := by rw [hr.out] at hr0; simpa using hr0
    rw [hlen.out] at hn400
    clear hr0 hrows
    obtain ⟨i0, hi0, hz0, hz1, hz2⟩ := info_parts int_info
    go_enter Try.func13, Try.ntmps13
    go_wp2_with fail
    refine (pure_own _ _ _ _ _ _ hk hv hr).mono ?_
    rintro e w1 ⟨A1, n1, c1, rfl, G1, hb1⟩
    obtain ⟨c0, c1', l0, B1⟩ := box2 hb1
    have HB1 := Lib.hid B1
    have g1 := (hk.keep hb1).keep (below_new w1 (.cells #[.int .i64 0, .int .i64 0] 24))
    have G1' := G1.keep (below_new w1 (.cells #[.int .i64 0, .int .i64 0] 24))
    clear hb1 B1 hk G1
    go_wp2_with fail
    refine (check_ref _ _ _ _ _ _ g1 hv _ _ hr).mono ?_
    rintro e w2 ⟨rfl, hb2⟩
    obtain ⟨f0, f1, l1, B2⟩ := box2 hb2
    have C0 := keepBox B2 c0
    have C1 := keepBox B2 c1'
    obtain ⟨W, hW⟩ : ∃ W, W = w2.alloc (.cells #[.int .i64 0, .int .i64 0] 24) := ⟨_, rfl⟩
    have hbn : Below w2.heap.size w2 W := by rw [hW]; exact below_new _ _
    have x0 : W.cell? ⟨w2.heap.size, 0, none⟩ = some (.int .i64 0) := by rw [hW]; simp [go_sem]
    have x1 : W.cell? ⟨w2.heap.size, 1, none⟩ = some (.int .i64 0) := by rw [hW]; simp [go_sem]
    have HB2 := Lib.hid (below_next (below_next HB1.out B2) hbn)
    have HG2 := Lib.hid ((g1.keep hb2).keep hbn)
    have HI2 := Lib.hid ((G1'.keep hb2).keep hbn)
    have D0 := keepBox hbn C0
    have D1 := keepBox hbn C1
    have F0 := keepBox hbn f0
    have F1 := keepBox hbn f1
    have HW := Lib.hid hW
    clear hb2 B2 c0 c1' g1 G1' hbn C0 C1 f0 f1 hW
    have HRES : Hid ((candF vars.toNat 1).filter (purB xss.flatten) = pureF vars xss) := rfl
    go_wp2_with fail
    rw [← HW.out]
    go_loopw [6, 7] (fun o v wr => ∃ (j m nl cl : Nat) (Lf : Option Addr) (ys : List Int), (j : Int) + m = vars ∧ nl ≤ 2 * j ∧ o = .slice Lf nl cl ∧ v = .int .i64 (j + 1) ∧ Hid (Own 3 wr W.heap.size Lf nl cl (ys.map (Value.int .i64))) ∧ Hid (∀ y ∈ ys, I64 y) ∧ Hid (Below W.heap.size W wr) ∧ Hid (ys ++ (candF m (j + 1)).filter (purB xss.flatten) = pureF vars xss)) (fun _ v _ => (vars + 1 - intOf v).toNat)
    case atStart => exact ⟨0, vars.toNat, 0, 0, none, [], by omega, Nat.zero_le _, rfl, rfl, Own.nil _ _ _, by simp [Hid], Below.refl _ _, by have := HRES.out; simpa [Hid] using this⟩
    case round =>
      obtain ⟨j, m, nl, cl, Lf, ys, hjm, hnl, rfl, rfl, hown, hys, hB, hdone⟩ := hrel
      have d0 := keepBox hB.out D0
      have d1 := keepBox hB.out D1
      obtain ⟨wo, hwo⟩ : ∃ wo : World, wo = wr := ⟨_, rfl⟩
      subst hwo
      by_cases hlt : (j : Int) + 1 ≤ vars
      · obtain ⟨m', rfl⟩ : ∃ m', m = m' + 1 := ⟨m - 1, by omega⟩
        clear D0 D1 F0 F1 x0 x1
        go_wp2_with fail
        go_loopw [8, 9, 10] (fun y no i wr => ∃ (p : Nat) (q1 q2 : Bool), p ≤ n ∧ y = .bool q1 ∧ no = .bool q2 ∧ i = .int .i64 p ∧ Hid (q1 = hasB (xss.take p).flatten ((j : Int) + 1)) ∧ Hid (q2 = hasB (xss.take p).flatten (-((j : Int) + 1))) ∧ Hid (∃ m, wr = wo.drewN m)) (fun _ _ i _ => n - (intOf i).toNat)
        case atStart => exact ⟨0, false, false, Nat.zero_le _, rfl, rfl, rfl, rfl, rfl, ⟨0, rfl⟩⟩
        case round =>
          obtain ⟨p, q1, q2, hp, rfl, rfl, rfl, hq1, hq2, hD⟩ := hrel
          have hBw : Hid (Below wo.heap.size wo wr) := by obtain ⟨m, rfl⟩ := hD.out; exact below_drewN _ _
          have d0 := keepBox hBw.out d0
          have d1 := keepBox hBw.out d1
          have hg := (HG2.out.keep hB.out).keep hBw.out
          by_cases hlp : p < n
          · obtain ⟨b, off, A', n', c', xs, rfl, hb, hcell, hi, hy⟩ := hg.round hlp
            obtain ⟨s1, hs1⟩ : ∃ s, Hid (hasB xs ((j : Int) + 1) = s) := ⟨_, rfl⟩
            obtain ⟨s2, hs2⟩ : ∃ s, Hid (hasB xs (-((j : Int) + 1)) = s) := ⟨_, rfl⟩
            have hq1' : Hid ((q1 || s1) = hasB (xss.take (p + 1)).flatten ((j : Int) + 1)) := by rw [hasB_flat hy.out, ← hq1.out, hs1.out]; rfl
            have hq2' : Hid ((q2 || s2) = hasB (xss.take (p + 1)).flatten (-((j : Int) + 1))) := by rw [hasB_flat hy.out, ← hq2.out, hs2.out]; rfl
            clear hq1 hq2
            have hDs : ∀ m2, Hid (∃ m, wr.drewN m2 = wo.drewN m) := fun m2 => by obtain ⟨m, rfl⟩ := hD.out; exact ⟨_, World.drewN_drewN _ _ _⟩
            have HDS := Lib.hid hDs
            clear hDs hg
            cases q1
            · go_wp2_with fail
              refine (has_any _ _ _ xs _ _ hi _ hs1).mono ?_
              rintro e w4 ⟨rfl, m4, rfl⟩
              have e0 := keepBox (below_drewN wr m4) d0
              have e1 := keepBox (below_drewN wr m4) d1
              have e2 := keepBox (below_drewN wr m4) hcell
              have hi4 := hi.drewN m4
              cases q2
              · go_wp2_with fail
                refine (has_any _ _ _ xs _ _ hi4 _ hs2).mono ?_
                rintro e w5 ⟨rfl, m5, rfl⟩
                go_wp2_with fail
                go_roundw
                case rel => exact ⟨p + 1, s1, s2, by omega, rfl, rfl, by go_num, by have := hq1'.out; simpa [Hid] using this, by have := hq2'.out; simpa [Hid] using this, HDS.out _⟩
                case measure => simp [intOf]; omega
              · go_wp2_with fail
                go_roundw
                case rel => exact ⟨p + 1, s1, true, by omega, rfl, rfl, by go_num, by have := hq1'.out; simpa [Hid] using this, by have := hq2'.out; simpa [Hid] using this, HDS.out _⟩
                case measure => simp [intOf]; omega
            · cases q2
              · go_wp2_with fail
                refine (has_any _ _ _ xs _ _ hi _ hs2).mono ?_
                rintro e w5 ⟨rfl, m5, rfl⟩
                go_wp2_with fail
                go_roundw
                case rel => exact ⟨p + 1, true, s2, by omega, rfl, rfl, by go_num, by have := hq1'.out; simpa [Hid] using this, by have := hq2'.out; simpa [Hid] using this, HDS.out _⟩
                case measure => simp [intOf]; omega
              · go_wp2_with fail
                go_roundw
                case rel => exact ⟨p + 1, true, true, by omega, rfl, rfl, by go_num, by have := hq1'.out; simpa [Hid] using this, by have := hq2'.out; simpa [Hid] using this, HDS.out 0⟩
                case measure => simp [intOf]; omega
          · have hq1' : Hid (hasB xss.flatten ((j : Int) + 1) = q1) := by have := hq1.out; rw [List.take_of_length_le (by rw [hlen.out]; omega)] at this; exact this.symm
            have hq2' : Hid (hasB xss.flatten (-((j : Int) + 1)) = q2) := by have := hq2.out; rw [List.take_of_length_le (by rw [hlen.out]; omega)] at this; exact this.symm
            have hdone2 : Hid (ys ++ ((if q1 && !q2 then [(j : Int) + 1] else if q2 && !q1 then [-((j : Int) + 1)] else []) ++ (candF m' ((j : Int) + 1 + 1)).filter (purB xss.flatten)) = pureF vars xss) := by
              have := hdone.out
              rw [candF, List.filter_cons, List.filter_cons, purB, purB, Int.neg_neg, hq1'.out, hq2'.out] at this
              show _ = _
              cases q1 <;> cases q2 <;> simpa using this
            have hown' := Lib.hid (hown.out.keep hBw.out)
            have hB' := Lib.hid (below_next hB.out hBw.out)
            clear hq1 hq2 hq1' hq2' hdone hg hown
            cases q1
            · cases q2
              · go_wp2_with fail
                go_roundw
                case rel => exact ⟨j + 1, m', nl, cl, Lf, ys, by omega, by omega, rfl, by go_num, hown', hys, hB', by have := hdone2.out; simpa [Hid] using this⟩
                case measure => simp [intOf]; omega
              · have hS := ints_made wr 3 [-((j : Int) + 1)] rfl (by simp [I64]; omega) (by simp [maxLen])
                go_wp2_with (first
                  | (at_builtin
                     refine wpList_append_sl _ rfl (.tmp 79) (.tmp 82) _ rfl W.heap.size 3 i0 _ 8 Try.underlying22 hi0 hz0 hz1 hz2 rfl Lf nl cl _ rfl (hown'.out.keep (below_new _ _)) (some ⟨wr.heap.size, 0, none⟩) 1 1 _ rfl hS.sl (ints_one _) (by simp only [maxLen]; omega) (by omega) (by have := hB'.out.size; simp; omega) ?_
                     intro L1 cL1 w5 hL1 hg1 hat1
                     have HL1 := Lib.hid hL1
                     have HB5 := Lib.hid (below_grown (below_alloc hB'.out _) (hown'.out.keep (below_new wr (.cells #[.int .i64 (-((j : Int) + 1))] 3))) (Nat.le_refl _) hg1)
                     clear hL1 hg1 hat1))
                go_roundw
                case rel =>
                  refine ⟨j + 1, m', nl + 1, cL1, L1, ys ++ [-((j : Int) + 1)], by omega, by omega, rfl, by go_num, by rw [List.map_append]; exact HL1.out, ?_, HB5, by have := hdone2.out; simpa [Hid] using this⟩
                  intro z hz
                  rcases List.mem_append.1 hz with hz | hz
                  · exact hys.out z hz
                  · simp at hz; subst hz; constructor <;> omega
                case measure => simp [intOf]; omega
            · cases q2
              · have hS := ints_made wr 3 [(j : Int) + 1] rfl (by simp [I64]; omega) (by simp [maxLen])
                go_wp2_with (first
                  | (at_builtin
                     refine wpList_append_sl _ rfl (.tmp 70) (.tmp 72) _ rfl W.heap.size 3 i0 _ 8 Try.underlying22 hi0 hz0 hz1 hz2 rfl Lf nl cl _ rfl (hown'.out.keep (below_new _ _)) (some ⟨wr.heap.size, 0, none⟩) 1 1 _ rfl hS.sl (ints_one _) (by simp only [maxLen]; omega) (by omega) (by have := hB'.out.size; simp; omega) ?_
                     intro L1 cL1 w5 hL1 hg1 hat1
                     have HL1 := Lib.hid hL1
                     have HB5 := Lib.hid (below_grown (below_alloc hB'.out _) (hown'.out.keep (below_new wr (.cells #[.int .i64 ((j : Int) + 1)] 3))) (Nat.le_refl _) hg1)
                     clear hL1 hg1 hat1))
                go_roundw
                case rel =>
                  refine ⟨j + 1, m', nl + 1, cL1, L1, ys ++ [(j : Int) + 1], by omega, by omega, rfl, by go_num, by rw [List.map_append]; exact HL1.out, ?_, HB5, by have := hdone2.out; simpa [Hid] using this⟩
                  intro z hz
                  rcases List.mem_append.1 hz with hz | hz
                  · exact hys.out z hz
                  · simp at hz; subst hz; constructor <;> omega
                case measure => simp [intOf]; omega
              · go_wp2_with fail
                go_roundw
                case rel => exact ⟨j + 1, m', nl, cl, Lf, ys, by omega, by omega, rfl, by go_num, hown', hys, hB', by have := hdone2.out; simpa [Hid] using this⟩
                case measure => simp [intOf]; omega
      · have hm0 : m = 0 := by omega
        subst hm0
        have hres : Hid (ys = pureF vars xss) := by have := hdone.out; simpa [candF, Hid] using this
        have HIy : Hid (Ints wo Lf nl cl (pureF vars xss)) := by rw [← hres.out]; exact hown.out.ints hys.out
        have HIl := Lib.hid (HI2.out.keep hB.out)
        have f0' := keepBox hB.out F0
        have f1' := keepBox hB.out F1
        have x0' := keepBox hB.out x0
        have x1' := keepBox hB.out x1
        clear D0 D1 F0 F1 x0 x1
        go_wp2_with fail
        refine (pair_any _).mono ?_
        rintro e w3 ⟨A3, n3, c3, rfl, G3, hb3⟩
        go_wp2_with fail
        refine (pure_own _ _ _ [[1, 2], [-1]] _ _ G3 ⟨by omega, by omega⟩ (by show _ = _; decide)).mono ?_
        rintro e w4 ⟨A4, n4, c4, rfl, G4', hb4⟩
        have G4 : Ints w4 A4 n4 c4 [2] := G4'
        have hb5 := below_next hb3 hb4
        have F0 := keepBox hb5 f0'
        have F1 := keepBox hb5 f1'
        have X0 := keepBox hb5 x0'
        have X1 := keepBox hb5 x1'
        have HB6 := Lib.hid (below_next (below_next HB2.out hB.out) hb5)
        have l5 : w1.heap.size < w4.heap.size := (cell_lt F0).1
        have l6 : w2.heap.size < w4.heap.size := (cell_lt X0).1
        have hbf := below_new w4 (.cells #[.int .i64 0, .int .i64 0] 24)
        have i1 := (HIl.out.keep hb5).keep hbf
        have i2 := (HIy.out.keep hb5).keep hbf
        have i3 := G4.keep hbf
        clear hb3 hb4 hb5 f0' f1' x0' x1' hbf G4 G4' G3
        go_wp2_with fail
        refine (same_any _ _ _ _ _ _ _ _ _ i1 i2 true (by simp [sameB, Hid])).mono ?_
        rintro e w6 ⟨rfl, m6, rfl⟩
        go_wp2_with fail
        refine (same_any _ _ _ _ _ _ [2] [2] _ ((i3.drewN m6).keep (below_new _ _)) (ints_made _ _ [2] (by simp) (by simp [I64]) (by decide)) true (by rfl)).mono ?_
        rintro e w7 ⟨rfl, m7, rfl⟩
        go_wp2_with fail
        go_ret
        exact ⟨rfl, below_next (below_alloc (below_next (below_alloc HB6.out _) (below_drewN _ _)) _) (below_drewN _ _)⟩
  · have d1 : (r1 != 0) = true := by simpa using hr1
    go_enter Try.func13, Try.ntmps13
    go_wp2_with fail
    refine (pure_wrong _ _ _ _ _ _ hk hv _ _ hr hr1).mono ?_
    rintro e w1 ⟨rfl, hb1⟩
    obtain ⟨c0, c1, l0, B1⟩ := box2 hb1
    have HB1 := Lib.hid B1
    have g1 := (hk.keep hb1).keep (below_new w1 (.cells #[.int .i64 r1, .int .i64 r2] 24))
    clear hb1 B1 hk
    go_wp2_with fail
    refine (check_ref _ _ _ _ _ _ g1 hv _ _ hr).mono ?_
    rintro e w2 ⟨rfl, hb2⟩
    obtain ⟨f0, f1, l1, B2⟩ := box2 hb2
    have HB2 := Lib.hid (below_next HB1.out B2)
    clear hb2 B2 c0 c1 g1
    go_wp2_with fail
    go_ret
    exact ⟨rfl, below_alloc HB2.out _⟩
end Go.Proofs.Ytehhhidjgngibaa
