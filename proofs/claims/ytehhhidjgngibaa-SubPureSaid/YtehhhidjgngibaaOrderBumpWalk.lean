/- The walk of the law OrderBump. -/
import Derived.Test.YtehhhidjgngibaaNext
import Derived.Test.YtehhhidjgngibaaBump
namespace Go.Proofs.Ytehhhidjgngibaa
open Go.RowKit

theorem bool_info : (Try.prog.info? 4).map (fun i => (i.zero, i.size, i.bytes)) = some (some (.bool false), 1, 1) := by kernel_rfl

theorem best_ex' (s : List Int) : ∃ b, Best (List.replicate s.length true) s 0 s.length b := by
  have H : ∀ k, k ≤ s.length → ∃ b, Best (List.replicate s.length true) s 0 k b := by
    intro k
    induction k with
    | zero => intro _; exact ⟨0, Best.empty _ _ _⟩
    | succ k ih =>
      intro hk
      obtain ⟨b, hb⟩ := ih (by omega)
      obtain ⟨s1, s2, s3⟩ := hb.snoc (o := true) (by rw [List.getElem?_replicate, if_pos (by omega)]) (List.getElem?_eq_getElem (by omega))
      cases b with
      | zero => exact ⟨_, s2 rfl rfl⟩
      | succ m =>
        obtain ⟨_, _, y, hy⟩ := hb.at_
        have := s3 m y rfl rfl hy
        by_cases h1 : y < s[k]
        · exact ⟨_, this.1 h1⟩
        · exact ⟨_, this.2 h1⟩
  exact H _ (Nat.le_refl _)
/-- Bumped, the best stays the best. -/
theorem best_bumped {op : List Bool} {s : List Int} {n m : Nat} {x d : Int} (h : Best op s 0 n (m + 1)) (hx : s[m]? = some x) (hd : 0 ≤ d) : Best op (s.set m (x + d)) 0 n (m + 1) := by
  rcases h with ⟨h0, _⟩ | ⟨m', x', h0, h1, h2, h3, h4, h5⟩
  · omega
  · obtain rfl : m = m' := by omega
    rw [hx] at h4; cases h4
    have hml := (List.getElem?_eq_some_iff.1 hx).1
    refine .inr ⟨m, x + d, rfl, h1, h2, h3, by simp [hml], fun j y j1 j2 j3 j4 => ?_⟩
    by_cases hj : m = j
    · subst hj
      rw [List.getElem?_set_self hml] at j4
      cases j4
      exact ⟨by omega, fun h => absurd h (by omega)⟩
    · rw [List.getElem?_set_ne hj] at j4
      have := h5 j y j1 j2 j3 j4
      exact ⟨by omega, fun h => by have := this.2 h; omega⟩
theorem best_none {s : List Int} (h : Best (List.replicate s.length true) s 0 s.length 0) : s.length = 0 := by
  rcases h with ⟨_, h⟩ | ⟨m, x, h0, _⟩
  · rcases Nat.eq_zero_or_pos s.length with hz | hp
    · exact hz
    · exact absurd (by rw [List.getElem?_replicate, if_pos hp]) (h 0 (Nat.le_refl _) hp)
  · omega
theorem bumped_one {s : List Int} {m : Nat} {x d : Int} (hs : Within 65535 s) (hx : s[m]? = some x) (h0 : 0 ≤ d) (h1 : d ≤ 65535) : bumpedL s [(m : Int) + 1] d = s.set m (x + d) := by
  have hxx := hs x (List.mem_of_getElem? hx)
  have e : addAll d s [(m : Int) + 1] = s.set m (x + d) := by
    rw [addAll, addAll, show ((m : Int) + 1 - 1).toNat = m by omega, hx]; rfl
  have hw : Within 1000000 (s.set m (x + d)) := (hs.mono (by omega)).set_ m (by omega) (by omega)
  rw [bumpedL, e, halves, if_neg (by rw [much_false hw]; simp)]

theorem bumpW_one {L : List Int} {m k : Nat} {d : Int} (hS : scoresWrong L = (0, 0)) (hk : L.length = k) (hm : m < k) (h0 : 0 ≤ d) (h1 : d ≤ 65535) : bumpW L [(m : Int) + 1] d = (0, 0) := by
  have hv : varsF k [(m : Int) + 1] 0 = (0, 0) := by
    rw [varsF, if_neg (by omega), varsF]
  unfold bumpW
  rw [hS, hk, hv, if_neg (by simp), if_neg (by simp), if_neg (by simp), if_neg (by omega)]

set_option maxHeartbeats 2000000 in
set_option maxRecDepth 100000 in
theorem orderBump_walk {A : Option Addr} {n c : Nat} {xs : List Int} {d : Int} (w : World) (h : Smalls .u16 65535 w A n c xs) (hd : 0 ≤ d ∧ d ≤ 65535) :
    Calls Try.prog 11 #[.slice A n c, .int .u16 d] w fun e w' => e = .returned (.bool true) ∧ Below w.heap.size w w' := by
  have hbd := h.bd
  have hl := Lib.hid h.len
  obtain ⟨i0, hi0, hz0, hz1, hz2⟩ := info_parts int_info
  obtain ⟨j0, hj0, hy0, hy1, hy2⟩ := info_parts bool_info
  go_enter Try.func11, Try.ntmps11
  go_wp2_with fail
  go_loopw [5, 6, 7] (fun l o i wr => ∃ (k : Nat) (AL AO : Option Addr) (cL cO : Nat), k ≤ n ∧ k ≤ 60 ∧ l = .slice AL k cL ∧ o = .slice AO k cO ∧ i = .int .i64 k ∧ Hid (Own 3 wr w.heap.size AL k cL ((xs.take k).map (Value.int .i64))) ∧ Hid (Own 4 wr w.heap.size AO k cO ((List.replicate k true).map Value.bool)) ∧ Hid (Below w.heap.size w wr)) (fun _ _ i _ => n - (intOf i).toNat)
  case atStart => exact ⟨0, none, none, 0, 0, Nat.zero_le _, Nat.zero_le _, rfl, rfl, rfl, Own.nil _ _ _, Own.nil _ _ _, Below.refl _ _⟩
  case round =>
    obtain ⟨k, AL, AO, cL, cO, hkn, hk60, rfl, rfl, rfl, hL, hO, hB⟩ := hrel
    by_cases hlt : k < n ∧ k < 60
    · obtain ⟨hlt, h60⟩ := hlt
      obtain ⟨b, off, y, rfl, hb, hcell, y0, y1, hy⟩ := (h.keep hB.out).round hlt
      have z1 : (k : Int) < (n : Int) := by omega
      have z2 : (k : Int) < 60 := by omega
      have hS := ints_made wr 3 [y] rfl (by simp [I64]; omega) (by simp [maxLen])
      go_wp2_with (first
        | (at_builtin
           refine wpList_append_sl _ rfl (.tmp 24) (.tmp 30) _ rfl w.heap.size 3 i0 _ 8 Try.underlying22 hi0 hz0 hz1 hz2 rfl AL k cL _ rfl (hL.out.keep (below_new _ _)) (some ⟨wr.heap.size, 0, none⟩) 1 1 _ rfl hS.sl (ints_one _) (by simp only [maxLen]; omega) (by omega) (by have := hB.out.size; simp; omega) ?_
           intro L1 cL1 w1 hL1 hg1 hat1
           have HL1 := Lib.hid hL1
           have HO1 := Lib.hid ((hO.out.keep (below_new wr (.cells #[.int .i64 y] 3))).kept hg1 (own_ne (hO.out.keep (below_new wr (.cells #[.int .i64 y] 3))) (hL.out.keep (below_new wr (.cells #[.int .i64 y] 3))) (by decide)))
           have HB1 := Lib.hid (below_grown (below_alloc hB.out (.cells #[.int .i64 y] 3)) (hL.out.keep (below_new wr (.cells #[.int .i64 y] 3))) (Nat.le_refl _) hg1)
           clear hL1 hg1 hat1)
        | (at_builtin
           refine wpList_append_sl _ rfl (.tmp 32) (.tmp 33) _ rfl w.heap.size 4 j0 _ 1 Try.underlying35 hj0 hy0 hy1 hy2 rfl AO k cO _ rfl (HO1.out.keep (below_new _ _)) (some ⟨w1.heap.size, 0, none⟩) 1 1 _ rfl (bools_made w1 4 [true] rfl (by decide)) (bools_one _) (by simp only [maxLen]; omega) (by omega) (by have := HB1.out.size; simp; omega) ?_
           intro O2 cO2 w2 hO2 hg2 hat2
           have HO2 := Lib.hid hO2
           have HL2 := Lib.hid ((HL1.out.keep (below_new w1 (.cells #[.bool true] 4))).kept hg2 (own_ne (HL1.out.keep (below_new w1 (.cells #[.bool true] 4))) (HO1.out.keep (below_new w1 (.cells #[.bool true] 4))) (by decide)))
           have HB2 := Lib.hid (below_grown (below_alloc HB1.out (.cells #[.bool true] 4)) (HO1.out.keep (below_new w1 (.cells #[.bool true] 4))) (Nat.le_refl _) hg2)
           clear hO2 hg2 hat2))
      go_roundw
      case rel =>
        refine ⟨k + 1, L1, O2, cL1, cO2, by omega, by omega, rfl, rfl, by go_num, ?_, ?_, HB2⟩
        · have := HL2.out
          rw [take_snoc_of hy.out, List.map_append]
          exact this
        · have := HO2.out
          rw [List.replicate_succ', List.map_append]
          exact this
      case measure => simp [intOf]; omega
    · have hkl : Hid ((xs.take k).length = k) := by show _ = _; rw [List.length_take, hl.out]; omega
      obtain ⟨L, hLL⟩ : ∃ L, xs.take k = L := ⟨_, rfl⟩
      have hW : Hid (Within 65535 L) := by
        rw [← hLL]
        intro x hx
        exact h.wf x (List.mem_of_mem_take hx)
      rw [hLL] at hkl hL
      clear hLL
      have hSW : Hid (scoresWrong L = (0, 0)) := scoresWrong_of L (by rw [hkl.out]; omega) fun x hx => by have := hW.out x hx; omega
      have hLI : Ints wr AL k cL L := hL.out.ints fun x hx => by have := hW.out x hx; exact ⟨by omega, by omega⟩
      have hOB : Bools wr AO k cO (List.replicate k true) := hO.out.sl
      obtain ⟨q, hq⟩ : ∃ q, Hid (Best (List.replicate k true) L 0 k q) := by
        obtain ⟨q, hq⟩ := best_ex' L
        rw [hkl.out] at hq
        exact ⟨q, hq⟩
      obtain ⟨code, hcode⟩ : ∃ code : Int, Hid (code = if q = 0 then 6 else 0) := ⟨_, rfl⟩
      have hend : (¬ (k : Int) < (n : Int)) ∨ ((k : Int) < (n : Int) ∧ ¬ (k : Int) < 60) := by omega
      clear hL hO hlt hcode
      rcases hend with z1 | ⟨z1, z2⟩
      all_goals
        obtain ⟨code, hcode⟩ : ∃ code : Int, Hid (code = if q = 0 then 6 else 0) := ⟨_, rfl⟩
        go_wp2_with fail
        refine (next_best _ _ _ _ _ _ _ _ hLI hOB hSW q code hq hcode).mono ?_
        rintro e w1 ⟨rfl, hb1⟩
        have hL1 := hLI.keep hb1
        have hO1 := hOB.keep hb1
        have HB1 := Lib.hid (below_next hB.out hb1)
        clear hb1
        cases q with
        | zero =>
          have hk0 : k = 0 := by
            have := hq.out
            rw [← hkl.out] at this
            rw [← hkl.out]
            exact best_none this
          subst hk0
          obtain rfl : code = 6 := hcode.out
          first
            | (exfalso; omega)
            | (go_wp2_with fail
               go_ret
               exact ⟨rfl, below_alloc HB1.out _⟩)
        | succ m =>
          obtain ⟨_, hmk, x, hx⟩ := hq.out.at_
          obtain rfl : code = 0 := by have := hcode.out; simpa using this
          have hxb := hW.out x (List.mem_of_getElem? hx)
          have d1 : ((k : Int) == 0) = false := by simp; omega
          have ev : ((m + 1 : Nat) : Int) = (m : Int) + 1 := by omega
          rw [ev]
          obtain ⟨L', hL'⟩ : ∃ L', Hid (L.set m (x + d) = L') := ⟨_, rfl⟩
          have hBu : Hid (bumpedL L [(m : Int) + 1] d = L') := by rw [bumped_one hW.out hx hd.1 hd.2]; exact hL'
          have hWu : Hid (Within 1000000 L') := by rw [← hL'.out]; exact (hW.out.mono (by omega)).set_ m (by omega) (by omega)
          have hLen' : Hid (L'.length = k) := by rw [← hL'.out, List.length_set]; exact hkl
          have hBW : Hid (bumpW L [(m : Int) + 1] d = (0, 0)) := by
            exact bumpW_one hSW.out hkl.out hmk hd.1 hd.2
          have hq' : Hid (Best (List.replicate k true) L' 0 k (m + 1)) := by rw [← hL'.out]; exact best_bumped hq.out hx hd.1
          have hSW' : Hid (scoresWrong L' = (0, 0)) := scoresWrong_of L' (by rw [hLen'.out]; omega) hWu.out
          have hx' : Hid (L'[m]? = some (x + d)) := by rw [← hL'.out]; show _ = _; rw [List.getElem?_set_self (by rw [hkl.out]; exact hmk)]
          have HX := Lib.hid hx
          clear hx hcode ev
          have hL2 := hL1.keep (below_new w1 (.cells #[.int .i64 0, .int .i64 0] 24))
          have hO2 := hO1.keep (below_new w1 (.cells #[.int .i64 0, .int .i64 0] 24))
          clear hL1 hO1
          go_wp2_with fail
          refine (bump_ok _ _ _ _ _ _ L [(m : Int) + 1] _ _ (hL2.keep (below_new _ _)) (ints_made _ 3 [(m : Int) + 1] (by simp) (by simp [I64]; omega) (by simp [maxLen])) hBW).mono ?_
          rw [hBu.out]
          rintro e w2 ⟨A2, n2, c2, rfl, hown2, hb2⟩
          have B2 := (below_box hb2).1
          obtain ⟨f0, f1, l2, B2'⟩ := box2 B2
          obtain rfl : k = n2 := by have := hown2.len; rw [List.length_map, hLen'.out] at this; exact this
          have hI2 := (hown2.ints (fun x hx => by have := hWu.out x hx; exact ⟨by omega, by omega⟩)).keep (below_new w2 (.cells #[.int .i64 0, .int .i64 0] 24))
          have hL3 := (hL2.keep B2).keep (below_new w2 (.cells #[.int .i64 0, .int .i64 0] 24))
          have hO3 := (hO2.keep B2).keep (below_new w2 (.cells #[.int .i64 0, .int .i64 0] 24))
          have HB2 := Lib.hid (below_next HB1.out B2')
          clear hb2 B2 B2' hown2 hL2 hO2
          go_wp2_with fail
          refine (next_best _ _ _ _ _ _ _ _ hI2 hO3 hSW' (m + 1) 0 hq' (by rfl)).mono ?_
          rintro e w3 ⟨rfl, hb3⟩
          obtain ⟨g0, g1, l3, B3⟩ := box2 hb3
          have F0 := keepBox B3 f0
          have hI4 := (hI2.keep hb3).keep (below_new w3 (.cells #[.int .i64 0, .int .i64 0] 24))
          have hL4 := (hL3.keep hb3).keep (below_new w3 (.cells #[.int .i64 0, .int .i64 0] 24))
          have HB3 := Lib.hid (below_alloc (below_next HB2.out B3) (.cells #[.int .i64 0, .int .i64 0] 24))
          have l4 : w1.heap.size < w3.heap.size := by omega
          obtain ⟨bi, oi, yi, rfl, _, hci, _, _, hyi⟩ := hI4.round (k := m) hmk
          obtain rfl : yi = x + d := by have := hyi.out; rw [hx'.out] at this; cases this; rfl
          obtain ⟨bl, ol, yl, rfl, _, hcl, _, _, hyl⟩ := hL4.round (k := m) hmk
          obtain rfl : yl = x := by have := hyl.out; rw [HX.out] at this; cases this; rfl
          have e1 : ((m + 1 : Nat) : Int) = (m : Int) + 1 := by omega
          rw [e1]
          clear hb3 B3 f0 f1 hI4 hL4 hL3 hO3 hI2 e1
          have y1 : ((m : Int) + 1 == (m : Int) + 1) = true := by simp
          have y2 : (1 : Int) ≤ (m : Int) + 1 := by omega
          have y3 : (m : Int) + 1 ≤ (k : Int) := by omega
          have y4 : ((k : Int) == (k : Int)) = true := by simp
          have y5 : (m : Int) + 1 - 1 = (m : Int) := by omega
          have y6 : (m : Int) < (k : Int) := by omega
          have y7 : (0 : Int) ≤ (m : Int) := by omega
          have y8 : IntKind.i64.wrap ((m : Int) + 1 - 1) = (m : Int) := by rw [y5]; exact IntWalk.i64_in _ (by omega)
          have y9 : IntKind.i64.wrap (yl + d) = yl + d := IntWalk.i64_in _ (by omega)
          have y10 : (yl + d == yl + d) = true := by simp
          have y11 : IntKind.i64.wrap d = d := IntWalk.i64_in _ (by omega)
          go_wp2_with fail
          go_quiet (fail)
          go_wp2_with fail
          go_ret
          exact ⟨rfl, below_next HB3.out (below_drewN _ _)⟩
end Go.Proofs.Ytehhhidjgngibaa
