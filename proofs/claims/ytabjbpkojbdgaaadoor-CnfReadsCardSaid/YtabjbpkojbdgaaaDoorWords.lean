/- Contract of the reference's Words. -/
import Derived.Test.YtabjbpkojbdgaaaDoorOwn
import Derived.Test.YtabjbpkojbdgaaaDoorGrid
import Derived.Test.YtabjbpkojbdgaaaDoorWordPlain
import Derived.Test.YtabjbpkojbdgaaaDoorNumber
namespace Go.Proofs.YtabjbpkojbdgaaaDoor
open Go.RowKit
set_option linter.unusedSimpArgs false
set_option linter.unusedVariables false

/-- A slice of strings of the call's own. -/
def RetStrs (t : TypeId) (W : List (List UInt8)) (w : World) (e : Ending) (w' : World) : Prop :=
  ∃ (A : Option Addr) (n c : Nat) (ss : List ByteArray), e = .returned (.slice A n c) ∧ Own t w' w.heap.size A n c (ss.map Value.string) ∧ ss.map (·.data.toList) = W ∧ Below w.heap.size w w'

theorem string_info : (Tryd.prog.info? 9).map (fun i => (i.zero, i.size, i.bytes)) = some (some (.string ⟨#[]⟩), 1, 16) := by kernel_rfl

set_option maxHeartbeats 1000000 in
set_option maxRecDepth 100000 in
theorem words_ref (s : ByteArray) (w : World) (hs : s.size ≤ 1000000) :
    Calls Tryd.prog 22 #[.string s] w (RetStrs 9 (wordsF s.data.toList) w) := by
  obtain ⟨l, hl⟩ : ∃ l, Hid (s.data.toList = l) := ⟨_, rfl⟩
  have hsz : Hid (s.size = l.length) := by show _ = _; rw [← hl.out, Array.length_toList]; rfl
  rw [hl.out]
  obtain ⟨ib, hib, hz0, hz1, hz2⟩ := info_parts string_info
  go_enter Tryd.func22, Tryd.ntmps22
  go_wp2_with fail
  go_loopw [3, 4, 5] (fun s3 s4 s5 wr => ∃ (k n c : Nat) (A : Option Addr) (ss : List ByteArray) (cur : ByteArray), k ≤ s.size + 1 ∧ cur.size ≤ k ∧ n ≤ k ∧ s3 = .slice A n c ∧ s4 = .string cur ∧ s5 = .int .i64 k ∧ Hid (Own 9 wr w.heap.size A n c (ss.map Value.string)) ∧ Hid (ss.map (·.data.toList) ++ (if k ≤ s.size then wordsGo cur.data.toList (l.drop k) else []) = wordsF l) ∧ Hid (Below w.heap.size w wr)) (fun _ _ q _ => s.size + 1 - (intOf q).toNat)
  case atStart => exact ⟨0, 0, 0, none, [], ⟨#[]⟩, Nat.zero_le _, Nat.zero_le _, Nat.zero_le _, rfl, rfl, rfl, Own.nil _ _ _, by show _ = _; simp [wordsF], Below.refl _ _⟩
  case round =>
    obtain ⟨k, n, c, A, ss, cur, hk, hcur, hnk, rfl, rfl, rfl, hO, hW, hB⟩ := hrel
    by_cases hlt : k < s.size
    · obtain ⟨b, hb⟩ : ∃ b, l[k]? = some b := ⟨_, List.getElem?_eq_getElem (by have := hsz.out; omega)⟩
      obtain ⟨hk2, hcs⟩ := list_at hl hb
      have hdr := drop_cons_of hb
      have v1 : (k : Int) < (s.size : Int) := by omega
      have v2 : (0 : Int) ≤ (k : Int) := by omega
      have v3 : (k : Int) ≤ (s.size : Int) := by omega
      by_cases hsp : spB b = true
      · have hnb : b = 32 ∨ b = 9 := by unfold spB at hsp; simpa using hsp
        have dd : ((b.toNat : Int) != 32) = false ∨ ((b.toNat : Int) != 32) = true ∧ ((b.toNat : Int) != 9) = false := by
          rcases hnb with rfl | rfl
          · left; rfl
          · right; exact ⟨rfl, rfl⟩
        by_cases hc0 : cur.data.toList = []
        · have dc : (cur.toList == []) = true := by rw [ByteArray.toList_eq, hc0]; rfl
          have hWN : Hid (ss.map (·.data.toList) ++ (if k + 1 ≤ s.size then wordsGo (⟨#[]⟩ : ByteArray).data.toList (l.drop (k + 1)) else []) = wordsF l) := by
            have h1 := hW.out
            rw [if_pos (by omega), hdr, wordsGo, hsp, hc0] at h1
            simp only [if_true, List.nil_append] at h1
            rw [if_pos (by omega)]
            exact h1
          clear hW hc0
          rcases dd with d32 | ⟨d32, d9⟩
          · go_wp2_with fail
            go_roundw
            case rel => exact ⟨k + 1, n, c, A, ss, ⟨#[]⟩, by omega, Nat.zero_le _, by omega, rfl, rfl, by go_num, hO, hWN, hB⟩
            case measure => simp [intOf] <;> omega
          · go_wp2_with fail
            go_roundw
            case rel => exact ⟨k + 1, n, c, A, ss, ⟨#[]⟩, by omega, Nat.zero_le _, by omega, rfl, rfl, by go_num, hO, hWN, hB⟩
            case measure => simp [intOf] <;> omega
        · have dc : (cur.toList == []) = false := by rw [ByteArray.toList_eq]; exact beq_eq_false_iff_ne.2 hc0
          have hWN : Hid ((ss ++ [cur]).map (·.data.toList) ++ (if k + 1 ≤ s.size then wordsGo (⟨#[]⟩ : ByteArray).data.toList (l.drop (k + 1)) else []) = wordsF l) := by
            have h1 := hW.out
            rw [if_pos (by omega), hdr, wordsGo, hsp, if_neg hc0] at h1
            simp only [if_true] at h1
            rw [if_pos (by omega), List.map_append]
            show _ = _
            rw [← h1]
            simp
          clear hW hc0
          have HSL := Lib.hid (sl_one wr 9 (.string cur) rfl)
          have HOn := Lib.hid (hO.out.keep (below_new wr (.cells #[.string cur] 9)))
          have hqz := hB.out.size
          rcases dd with d32 | ⟨d32, d9⟩
          · go_wp2_with (first
            | (at_builtin
               refine wpList_append_sl _ rfl (.tmp 37) (.tmp 39) _ rfl w.heap.size 9 ib _ 16 Tryd.underlying50 hib hz0 hz1 hz2 rfl A n c _ rfl HOn.out (some ⟨wr.heap.size, 0, none⟩) 1 1 _ rfl HSL.out (by simp [Value.oneCell']) (by simp only [maxLen]; omega) (by omega) (by simp; omega) ?_
               intro L1 cL1 w9 hL1 hg1 hat1
               have HL1 : Hid (Own 9 w9 w.heap.size L1 (n + 1) cL1 ((ss ++ [cur]).map Value.string)) := by rw [List.map_append]; exact hL1
               have HB9 := Lib.hid (below_grown (below_alloc hB.out (.cells #[.string cur] 9)) HOn.out (Nat.le_refl _) hg1)
               clear hL1 hg1 hat1))
            go_roundw
            case rel => exact ⟨k + 1, n + 1, cL1, L1, ss ++ [cur], ⟨#[]⟩, by omega, Nat.zero_le _, by omega, rfl, rfl, by go_num, HL1, hWN, HB9⟩
            case measure => simp [intOf] <;> omega
          · go_wp2_with (first
            | (at_builtin
               refine wpList_append_sl _ rfl (.tmp 37) (.tmp 39) _ rfl w.heap.size 9 ib _ 16 Tryd.underlying50 hib hz0 hz1 hz2 rfl A n c _ rfl HOn.out (some ⟨wr.heap.size, 0, none⟩) 1 1 _ rfl HSL.out (by simp [Value.oneCell']) (by simp only [maxLen]; omega) (by omega) (by simp; omega) ?_
               intro L1 cL1 w9 hL1 hg1 hat1
               have HL1 : Hid (Own 9 w9 w.heap.size L1 (n + 1) cL1 ((ss ++ [cur]).map Value.string)) := by rw [List.map_append]; exact hL1
               have HB9 := Lib.hid (below_grown (below_alloc hB.out (.cells #[.string cur] 9)) HOn.out (Nat.le_refl _) hg1)
               clear hL1 hg1 hat1))
            go_roundw
            case rel => exact ⟨k + 1, n + 1, cL1, L1, ss ++ [cur], ⟨#[]⟩, by omega, Nat.zero_le _, by omega, rfl, rfl, by go_num, HL1, hWN, HB9⟩
            case measure => simp [intOf] <;> omega
      · have hsp2 : spB b = false := by simpa using hsp
        have hnb : b ≠ 32 ∧ b ≠ 9 := by unfold spB at hsp2; simpa using hsp2
        have d32 : ((b.toNat : Int) != 32) = true := by rw [bne_iff_ne]; exact fun e => hnb.1 (UInt8.toNat_inj.1 (by have : (32 : UInt8).toNat = 32 := rfl; omega))
        have d9 : ((b.toNat : Int) != 9) = true := by rw [bne_iff_ne]; exact fun e => hnb.2 (UInt8.toNat_inj.1 (by have : (9 : UInt8).toNat = 9 := rfl; omega))
        obtain ⟨x, hx⟩ : ∃ x, s.extract k (k + 1) = x := ⟨_, rfl⟩
        have hxl : x.data.toList = [b] := by
          have h1 := Lib.extract_data s k (k + 1)
          rw [hx, hl.out, hdr] at h1
          rw [h1]
          simp
        have hxs : x.size = 1 := by have := congrArg List.length hxl; rw [Array.length_toList] at this; exact this
        have hWN : Hid (ss.map (·.data.toList) ++ (if k + 1 ≤ s.size then wordsGo (cur ++ x).data.toList (l.drop (k + 1)) else []) = wordsF l) := by
          have h1 := hW.out
          rw [if_pos (by omega), hdr, wordsGo, hsp2] at h1
          rw [if_pos (by omega)]
          show _ = _
          rw [← h1, ByteArray.data_append, Array.toList_append, hxl]
          rfl
        clear hW hxl hsp hsp2 hnb hdr
        go_wp2_with fail
        go_roundw
        case rel => exact ⟨k + 1, n, c, A, ss, cur ++ x, by omega, by rw [ByteArray.size_append]; omega, by omega, rfl, rfl, by go_num, hO, hWN, hB⟩
        case measure => simp [intOf] <;> omega
    · by_cases heq : k = s.size
      · subst heq
        have v1 : ¬ (s.size : Int) < (s.size : Int) := by omega
        have v3 : (s.size : Int) ≤ (s.size : Int) := by omega
        have hdn : l.drop s.size = [] := List.drop_eq_nil_of_le (by rw [hsz.out]; exact Nat.le_refl _)
        by_cases hc0 : cur.data.toList = []
        · have dc : (cur.toList == []) = true := by rw [ByteArray.toList_eq, hc0]; rfl
          have hWN : Hid (ss.map (·.data.toList) ++ (if s.size + 1 ≤ s.size then wordsGo (⟨#[]⟩ : ByteArray).data.toList (l.drop (s.size + 1)) else []) = wordsF l) := by
            have h1 := hW.out
            rw [if_pos (Nat.le_refl _), hdn, wordsGo, if_pos hc0] at h1
            rw [if_neg (by omega)]
            exact h1
          clear hW hc0 hdn
          go_wp2_with fail
          go_roundw
          case rel => exact ⟨s.size + 1, n, c, A, ss, ⟨#[]⟩, by omega, Nat.zero_le _, by omega, rfl, rfl, by go_num, hO, hWN, hB⟩
          case measure => simp [intOf] <;> omega
        · have dc : (cur.toList == []) = false := by rw [ByteArray.toList_eq]; exact beq_eq_false_iff_ne.2 hc0
          have hWN : Hid ((ss ++ [cur]).map (·.data.toList) ++ (if s.size + 1 ≤ s.size then wordsGo (⟨#[]⟩ : ByteArray).data.toList (l.drop (s.size + 1)) else []) = wordsF l) := by
            have h1 := hW.out
            rw [if_pos (Nat.le_refl _), hdn, wordsGo, if_neg hc0] at h1
            rw [if_neg (by omega), List.map_append]
            show _ = _
            rw [← h1]
            simp
          clear hW hc0 hdn
          have HSL := Lib.hid (sl_one wr 9 (.string cur) rfl)
          have HOn := Lib.hid (hO.out.keep (below_new wr (.cells #[.string cur] 9)))
          have hqz := hB.out.size
          go_wp2_with (first
            | (at_builtin
               refine wpList_append_sl _ rfl (.tmp 37) (.tmp 39) _ rfl w.heap.size 9 ib _ 16 Tryd.underlying50 hib hz0 hz1 hz2 rfl A n c _ rfl HOn.out (some ⟨wr.heap.size, 0, none⟩) 1 1 _ rfl HSL.out (by simp [Value.oneCell']) (by simp only [maxLen]; omega) (by omega) (by simp; omega) ?_
               intro L1 cL1 w9 hL1 hg1 hat1
               have HL1 : Hid (Own 9 w9 w.heap.size L1 (n + 1) cL1 ((ss ++ [cur]).map Value.string)) := by rw [List.map_append]; exact hL1
               have HB9 := Lib.hid (below_grown (below_alloc hB.out (.cells #[.string cur] 9)) HOn.out (Nat.le_refl _) hg1)
               clear hL1 hg1 hat1))
          go_roundw
          case rel => exact ⟨s.size + 1, n + 1, cL1, L1, ss ++ [cur], ⟨#[]⟩, by omega, Nat.zero_le _, by omega, rfl, rfl, by go_num, HL1, hWN, HB9⟩
          case measure => simp [intOf] <;> omega
      · obtain rfl : k = s.size + 1 := by omega
        have hWN : Hid (ss.map (·.data.toList) = wordsF l) := by
          have h1 := hW.out
          rw [if_neg (by omega), List.append_nil] at h1
          exact h1
        have v3 : ¬ ((s.size + 1 : Nat) : Int) ≤ (s.size : Int) := by omega
        clear hW heq
        go_wp2_with fail
        exact bodyPost_ret (v := .slice A n c) (by simp [results, Tryd.results22, go_sem]) rfl ⟨A, n, c, ss, rfl, hO.out, hWN.out, hB.out⟩
end Go.Proofs.YtabjbpkojbdgaaaDoor
