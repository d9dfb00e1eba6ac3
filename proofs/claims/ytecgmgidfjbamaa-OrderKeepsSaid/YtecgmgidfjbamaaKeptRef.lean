/- Contracts of the reference's Better, Kept. (Printed by wip/tools/keeps.py.) -/
import Derived.Test.YtecgmgidfjbamaaKeep
namespace Go.Proofs.Ytecgmgidfjbamaa
open Go.RowKit
set_option linter.unusedSimpArgs false

set_option maxHeartbeats 1000000 in
theorem better_any (A B : Option Addr) (n c d : Nat) (gs ss : List Int) (i k : Nat) (w : World) (h : Ints w A n c gs) (h' : Ints w B n d ss) (hi : i < n) (hk : k < n) (r : Bool) (hr : Hid (betB gs ss i k = r)) :
    Calls Try.prog 76 #[.slice A n c, .slice B n d, .int .i64 (i : Int), .int .i64 (k : Int)] w (RetQ (.bool r) w) := by
  have hbd := h.bd
  have hbd' := h'.bd
  obtain ⟨bA, oA, gi, hAe, hbA, hgi, gi1, gi2, hgik⟩ := h.round hi
  subst hAe
  obtain ⟨_, _, gk, hAe, _, hgk, gk1, gk2, hgkk⟩ := h.round hk
  cases hAe
  obtain ⟨bB, oB, si, hBe, hbB, hsi, si1, si2, hsik⟩ := h'.round hi
  subst hBe
  obtain ⟨_, _, sk, hBe, _, hsk, sk1, sk2, hskk⟩ := h'.round hk
  cases hBe
  have hr2 : Hid ((if gi ≠ gk then decide (gi < gk) else if si ≠ sk then decide (si < sk) else decide (k < i)) = r) := by have := hr.out; rw [betB, getD_at hgik.out, getD_at hgkk.out, getD_at hsik.out, getD_at hskk.out] at this; exact this
  have x1 : (0 : Int) ≤ (i : Int) := by omega
  have x2 : (i : Int) < (n : Int) := by omega
  have x3 : (0 : Int) ≤ (k : Int) := by omega
  have x4 : (k : Int) < (n : Int) := by omega
  clear h h' hr
  by_cases h1 : gi ≠ gk
  · have d1 : (gi != gk) = true := by simpa using h1
    obtain rfl : decide (gi < gk) = r := by have := hr2.out; rw [if_pos h1] at this; exact this
    go_enter Try.func76, Try.ntmps76
    go_wp2_with fail
    go_quiet (fail)
    go_wp2_with fail
    go_quiet (fail)
    go_wp2_with fail
    go_ret
    refine ⟨by first | rfl | (simp; done), ?_⟩
    first | exact ⟨_, rfl⟩ | (simp only [World.drewN_drewN]; exact ⟨_, rfl⟩)
  · have d1 : (gi != gk) = false := by simpa using h1
    by_cases h2 : si ≠ sk
    · have d2 : (si != sk) = true := by simpa using h2
      obtain rfl : decide (si < sk) = r := by have := hr2.out; rw [if_neg h1, if_pos h2] at this; exact this
      go_enter Try.func76, Try.ntmps76
      go_wp2_with fail
      go_quiet (fail)
      go_wp2_with fail
      go_quiet (fail)
      go_wp2_with fail
      go_quiet (fail)
      go_wp2_with fail
      go_ret
      refine ⟨by first | rfl | (simp; done), ?_⟩
      first | exact ⟨_, rfl⟩ | (simp only [World.drewN_drewN]; exact ⟨_, rfl⟩)
    · have d2 : (si != sk) = false := by simpa using h2
      obtain rfl : decide ((k : Int) < (i : Int)) = r := by have := hr2.out; rw [if_neg h1, if_neg h2] at this; rw [← this, decide_eq_decide]; omega
      go_enter Try.func76, Try.ntmps76
      go_wp2_with fail
      go_quiet (fail)
      go_wp2_with fail
      go_quiet (fail)
      go_wp2_with fail
      go_ret
      refine ⟨by first | rfl | (simp; done), ?_⟩
      first | exact ⟨_, rfl⟩ | (simp only [World.drewN_drewN]; exact ⟨_, rfl⟩)

theorem cntF_succ (gs ss : List Int) (i j : Nat) : cntF gs ss i (List.range (j + 1)) = if betB gs ss j i then cntF gs ss i (List.range j) + 1 else cntF gs ss i (List.range j) := by
  unfold cntF
  rw [List.range_succ, List.countP_append]
  by_cases h : betB gs ss j i = true <;> simp [h]
theorem cntF_le (gs ss : List Int) (i j : Nat) : cntF gs ss i (List.range j) ≤ j := by
  unfold cntF
  have := List.countP_le_length (p := fun j => betB gs ss j i) (l := List.range j)
  rw [List.length_range] at this
  exact this

set_option maxHeartbeats 4000000 in
theorem kept_any (A B : Option Addr) (n c d : Nat) (gs ss : List Int) (many : Int) (w : World) (h : Ints w A n c gs) (h' : Ints w B n d ss) (hmany : I64 many) (hn : n ≤ 1000000) :
    Calls Try.prog 43 #[.slice A n c, .slice B n d, .int .i64 many] w (RetInts ((keptF gs ss many).map (fun i : Nat => (i : Int))) w) := by
  have hbd := h.bd
  have hbd' := h'.bd
  have hlg := Lib.hid h.len
  have hmm := hmany
  unfold I64 at hmm
  obtain ⟨i0, hi0, hz0, hz1, hz2⟩ := info_parts int_info
  have G := Lib.hid h
  have V := Lib.hid h'
  clear h h'
  go_enter Try.func43, Try.ntmps43
  go_wp2_with fail
  go_loopw [7, 8] (fun s7 s8 wr => ∃ (i no cl : Nat) (L : Option Addr), i ≤ n ∧ no ≤ i ∧ s7 = .slice L no cl ∧ s8 = .int .i64 i ∧ Hid (Own 3 wr w.heap.size L no cl (plc ((List.range i).filter (keepB gs ss n many)))) ∧ Hid (Below w.heap.size w wr)) (fun _ s _ => n - (intOf s).toNat)
  case atStart => exact ⟨0, 0, 0, none, Nat.zero_le _, Nat.le_refl _, rfl, rfl, Own.nil _ _ _, Below.refl _ _⟩
  case round =>
    obtain ⟨i, no, cl, L, hi, hno, rfl, rfl, hO, hbl⟩ := hrel
    by_cases hlt : i < n
    · obtain ⟨wo, hwo⟩ : ∃ wo : World, wo = wr := ⟨_, rfl⟩
      subst hwo
      have u1 : (0 : Int) ≤ (i : Int) := by omega
      have u2 : (i : Int) < (n : Int) := by omega
      have hwz := hbl.out.size
      go_wp2_with fail
      go_loopw [9, 10] (fun s9 s10 wr => ∃ j : Nat, j ≤ n ∧ s9 = .int .i64 (cntF gs ss i (List.range j) : Int) ∧ s10 = .int .i64 j ∧ Hid (Below wo.heap.size wo wr)) (fun _ s _ => n - (intOf s).toNat)
      case atStart => exact ⟨0, Nat.zero_le _, rfl, rfl, Below.refl _ _⟩
      case round =>
        obtain ⟨j, hj, rfl, rfl, hbj⟩ := hrel
        have hbl2 := Lib.hid (below_next hbl.out hbj.out)
        have hcl := cntF_le gs ss i j
        by_cases hlt2 : j < n
        · obtain ⟨r, hr⟩ : ∃ r, Hid (betB gs ss j i = r) := ⟨_, rfl⟩
          have hcs : Hid (cntF gs ss i (List.range (j + 1)) = if r then cntF gs ss i (List.range j) + 1 else cntF gs ss i (List.range j)) := by show _ = _; rw [cntF_succ, hr.out]
          have v1 : (j : Int) < (n : Int) := by omega
          go_wp2_with fail
          refine ((better_any A B n c d gs ss j i _ (G.out.keep hbl2.out) (V.out.keep hbl2.out) hlt2 hlt r hr).mono (fun _ _ hh => hh.v)).mono ?_
          rintro e w2 ⟨rfl, hb2⟩
          have BJ := Lib.hid (below_next hbj.out hb2)
          clear hb2
          generalize cntF gs ss i (List.range j) = cn at hcs hcl ⊢
          cases r
          · go_wp2_with fail
            go_roundw
            case rel => exact ⟨j + 1, by omega, by rw [hcs.out]; rfl, by go_num, BJ⟩
            case measure => simp [intOf]; omega
          · go_wp2_with fail
            go_roundw
            case rel => exact ⟨j + 1, by omega, by rw [hcs.out]; go_num, by go_num, BJ⟩
            case measure => simp [intOf]; omega
        · obtain rfl : j = n := by omega
          obtain ⟨bA, oA, x, hAe, hbA, hgx, x1, x2, hxk⟩ := (G.out.keep hbl2.out).round hlt
          subst hAe
          have hkb : Hid (keepB gs ss j many i = (decide ((cntF gs ss i (List.range j) : Int) < many) || decide (x ≤ 2))) := by show _ = _; rw [keepB, getD_at hxk.out]
          have hfs : Hid ((List.range (i + 1)).filter (keepB gs ss j many) = (List.range i).filter (keepB gs ss j many) ++ if keepB gs ss j many i then [i] else []) := by show _ = _; rw [List.range_succ, List.filter_append, List.filter_cons]; simp
          generalize cntF gs ss i (List.range j) = cn at hkb hcl ⊢
          by_cases hq : ((cn : Int) < many ∨ x ≤ 2)
          · have hfs2 : Hid ((List.range (i + 1)).filter (keepB gs ss j many) = (List.range i).filter (keepB gs ss j many) ++ [i]) := by have := hfs.out; rw [hkb.out, if_pos (by simpa using hq)] at this; exact this
            have HOK := Lib.hid ((hO.out.keep hbj.out).keep (below_new wr (.cells #[.int .i64 (i : Int)] 3)))
            have hSS := sl_one wr 3 (.int .i64 (i : Int)) rfl
            have hwr := hbl2.out.size
            by_cases hjm : (cn : Int) < many
            · clear hq
              go_wp2_with (first
                | (at_builtin
                   refine wpList_append_sl _ rfl (.tmp 40) (.tmp 42) _ rfl w.heap.size 3 i0 _ 8 Try.underlying26 hi0 hz0 hz1 hz2 rfl L no cl _ rfl HOK.out (some ⟨wr.heap.size, 0, none⟩) 1 1 _ rfl hSS (by simp [Value.oneCell']) (by simp only [maxLen]; omega) (by omega) (by simp; omega) ?_
                   intro L1 cL1 w6 hL1 hg1 hat1
                   have HP6 := Lib.hid hL1
                   have HB6 := Lib.hid (below_grown (below_alloc hbl2.out (.cells #[.int .i64 (i : Int)] 3)) HOK.out (Nat.le_refl _) hg1)
                   clear hL1 hg1 hat1))
              go_roundw
              case rel => exact ⟨i + 1, no + 1, cL1, L1, by omega, by omega, rfl, by go_num, by rw [hfs2.out, plc_append]; exact HP6, HB6⟩
              case measure => simp [intOf]; omega
            · have hx2 : x ≤ 2 := by omega
              clear hq
              go_wp2_with (first
                | (at_builtin
                   refine wpList_append_sl _ rfl (.tmp 40) (.tmp 42) _ rfl w.heap.size 3 i0 _ 8 Try.underlying26 hi0 hz0 hz1 hz2 rfl L no cl _ rfl HOK.out (some ⟨wr.heap.size, 0, none⟩) 1 1 _ rfl hSS (by simp [Value.oneCell']) (by simp only [maxLen]; omega) (by omega) (by simp; omega) ?_
                   intro L1 cL1 w6 hL1 hg1 hat1
                   have HP6 := Lib.hid hL1
                   have HB6 := Lib.hid (below_grown (below_alloc hbl2.out (.cells #[.int .i64 (i : Int)] 3)) HOK.out (Nat.le_refl _) hg1)
                   clear hL1 hg1 hat1))
              go_roundw
              case rel => exact ⟨i + 1, no + 1, cL1, L1, by omega, by omega, rfl, by go_num, by rw [hfs2.out, plc_append]; exact HP6, HB6⟩
              case measure => simp [intOf]; omega
          · have hfs2 : Hid ((List.range (i + 1)).filter (keepB gs ss j many) = (List.range i).filter (keepB gs ss j many)) := by have := hfs.out; rw [hkb.out, if_neg (by simpa using hq), List.append_nil] at this; exact this
            have hjm : ¬ (cn : Int) < many := by omega
            have hx2 : ¬ x ≤ 2 := by omega
            have HOK := Lib.hid (hO.out.keep hbj.out)
            clear hq
            go_wp2_with fail
            go_roundw
            case rel => exact ⟨i + 1, no, cl, L, by omega, by omega, rfl, by go_num, by rw [hfs2.out]; exact HOK, hbl2⟩
            case measure => simp [intOf]; omega
    · obtain rfl : i = n := by omega
      go_wp2_with fail
      go_ret
      exact ⟨L, no, cl, rfl, by rw [plc_map]; have := hO.out; unfold keptF; rw [hlg.out]; exact this, hbl.out⟩
end Go.Proofs.Ytecgmgidfjbamaa
