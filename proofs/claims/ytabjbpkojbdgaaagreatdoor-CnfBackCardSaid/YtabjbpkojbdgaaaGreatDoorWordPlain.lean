/- Words of a line: FieldsFunc at blanks and tabs gives the words that the bytes give. Of no program. -/
import Derived.Lib.FieldsP
import Derived.Lib.FieldsU
import Derived.Laws.RangeAny
namespace Go.Proofs.YtabjbpkojbdgaaaGreatDoor
set_option linter.unusedSimpArgs false
set_option linter.unusedVariables false
open Go.Lib

def spB (b : UInt8) : Bool := b == 32 || b == 9
def spP (r : Nat) : Bool := r == 32 || r == 9
/-- The words of a line; 'cur': the word that is open. -/
def wordsGo : List UInt8 → List UInt8 → List (List UInt8)
  | cur, [] => if cur = [] then [] else [cur]
  | cur, b :: t => if spB b then (if cur = [] then [] else [cur]) ++ wordsGo [] t else wordsGo (cur ++ [b]) t
def wordsF (l : List UInt8) : List (List UInt8) := wordsGo [] l

theorem wordsGo_take : ∀ (k : Nat) (cur m : List UInt8), (∀ b ∈ m.take k, spB b = false) → wordsGo cur m = wordsGo (cur ++ m.take k) (m.drop k)
  | 0, cur, m, _ => by simp
  | k + 1, cur, [], _ => by simp
  | k + 1, cur, b :: t, h => by
    have hb : spB b = false := h b (by simp)
    have ih := wordsGo_take k (cur ++ [b]) t (fun x hx => h x (by rw [List.take_succ_cons]; exact List.mem_cons_of_mem _ hx))
    rw [wordsGo, hb]
    simp only [Bool.false_eq_true, if_false, List.take_succ_cons, List.drop_succ_cons]
    rw [ih, List.append_assoc]
    rfl

theorem spB_high {b : UInt8} (h : 128 ≤ b.toNat) : spB b = false := by
  have h1 : b ≠ 32 := fun e => by rw [e] at h; exact absurd h (by decide)
  have h2 : b ≠ 9 := fun e => by rw [e] at h; exact absurd h (by decide)
  simp [spB, h1, h2]

/-- Behind a first byte of 128 or more all bytes of a rune are. -/
theorem decode_cont (s : ByteArray) (pos : Nat) (h0 : pos < s.size) (h : 128 ≤ (s.get! pos).toNat) : 1 ≤ (Utf8.decode s pos).2 ∧ pos + (Utf8.decode s pos).2 ≤ s.size ∧ 128 ≤ (Utf8.decode s pos).1 ∧ ∀ j, j < (Utf8.decode s pos).2 → 128 ≤ (s.get! (pos + j)).toNat := by
  have hn : ¬ (s.get! (pos + 0)).toNat < 0x80 := by rw [Nat.add_zero]; omega
  simp only [Utf8.decode, if_neg hn]
  have one : ∀ j, j < 1 → 128 ≤ (s.get! (pos + j)).toNat := fun j hj => by
    obtain rfl : j = 0 := by omega
    exact h
  split
  · rename_i hc
    simp only [Bool.and_eq_true, decide_eq_true_eq, beq_iff_eq] at hc
    split
    · refine ⟨by omega, by omega, by assumption, fun j hj => ?_⟩
      rcases (by omega : j = 0 ∨ j = 1) with rfl | rfl
      · exact h
      · omega
    · exact ⟨by omega, by omega, by simp [Utf8.runeError], one⟩
  · split
    · rename_i hc
      simp only [Bool.and_eq_true, decide_eq_true_eq, beq_iff_eq] at hc
      split
      · rename_i hv
        simp only [Bool.and_eq_true, decide_eq_true_eq] at hv
        refine ⟨by omega, by omega, by omega, fun j hj => ?_⟩
        rcases (by omega : j = 0 ∨ j = 1 ∨ j = 2) with rfl | rfl | rfl
        · exact h
        · omega
        · omega
      · exact ⟨by omega, by omega, by simp [Utf8.runeError], one⟩
    · split
      · rename_i hc
        simp only [Bool.and_eq_true, decide_eq_true_eq, beq_iff_eq] at hc
        split
        · rename_i hv
          simp only [Bool.and_eq_true, decide_eq_true_eq] at hv
          refine ⟨by omega, by omega, by omega, fun j hj => ?_⟩
          rcases (by omega : j = 0 ∨ j = 1 ∨ j = 2 ∨ j = 3) with rfl | rfl | rfl | rfl
          · exact h
          · omega
          · omega
          · omega
        · exact ⟨by omega, by omega, by simp [Utf8.runeError], one⟩
      · exact ⟨by omega, by omega, by simp [Utf8.runeError], one⟩

theorem wordsGo_nil (cur : List UInt8) : wordsGo cur [] = if cur = [] then [] else [cur] := by rw [wordsGo]
theorem sp_byte (b : UInt8) : spP b.toNat = spB b := by
  have : ∀ c : UInt8, (b.toNat == c.toNat) = (b == c) := fun c => by
    by_cases h : b = c
    · subst h; rw [beq_self_eq_true, beq_self_eq_true]
    · have h2 : b.toNat ≠ c.toNat := fun e => h (UInt8.toNat_inj.1 e)
      rw [beq_eq_false_iff_ne.2 h, beq_eq_false_iff_ne.2 h2]
  have h1 := this 32
  have h2 := this 9
  unfold spP spB
  rw [← h1, ← h2]
  rfl
theorem get_drop (s : ByteArray) (pos : Nat) (h : pos < s.size) : s.data.toList.drop pos = s.get! pos :: s.data.toList.drop (pos + 1) := by
  have hl : pos < s.data.toList.length := by rw [Array.length_toList]; exact h
  rw [List.drop_eq_getElem_cons hl]
  congr 1
  show s.data[pos] = s.data[pos]!
  rw [getElem!_pos s.data pos h]

theorem words_spans (s : ByteArray) : ∀ (f pos : Nat) (st : Option Nat) (acc : List (Nat × Nat)), s.size ≤ pos + f → pos ≤ s.size → (∀ a, st = some a → a < pos) →
    acc.map (fun p => pieceU s.data.toList p.1 p.2) ++ wordsGo (openPiece s.data.toList st pos) (s.data.toList.drop pos) = (closeSpans s (spansFromP spP s f pos st acc)).map (fun p => pieceU s.data.toList p.1 p.2)
  | 0, pos, st, acc, h, hp, hst => by
    obtain rfl : pos = s.size := by omega
    have hd : s.data.toList.drop s.size = [] := List.drop_eq_nil_of_le (by rw [← size_eq]; exact Nat.le_refl _)
    rw [hd, wordsGo_nil]
    cases st with
    | none => simp [spansFromP, closeSpans, openPiece]
    | some a =>
      have := pieceU_ne s.data.toList a s.size (hst a rfl) (by rw [← size_eq]; exact Nat.le_refl _)
      simp [spansFromP, closeSpans, openPiece, this]
  | f + 1, pos, st, acc, h, hp, hst => by
    by_cases hlt : pos < s.size
    · by_cases hb : (s.get! pos).toNat < 128
      · have hd : Utf8.decode s pos = ((s.get! pos).toNat, 1) := by
          simp only [Utf8.decode, Nat.add_zero]
          rw [if_pos hb]
        rw [get_drop s pos hlt]
        simp only [spansFromP, if_pos hlt, hd, wordsGo, sp_byte]
        cases hsp : spB (s.get! pos) with
        | true =>
          simp only [if_true]
          cases st with
          | none =>
            have ih := words_spans s f (pos + 1) none acc (by omega) hlt (fun a h => by cases h)
            simpa [openPiece] using ih
          | some a =>
            have hpn := pieceU_ne s.data.toList a pos (hst a rfl) (by rw [← size_eq]; omega)
            have ih := words_spans s f (pos + 1) none (acc ++ [(a, pos)]) (by omega) hlt (fun a h => by cases h)
            simpa [openPiece, hpn] using ih
        | false =>
          simp only [Bool.false_eq_true, if_false]
          have e1 : [s.get! pos] = (s.data.toList.drop pos).take 1 := by rw [get_drop s pos hlt]; rfl
          cases st with
          | none =>
            have ih := words_spans s f (pos + 1) (some pos) acc (by omega) hlt (fun a h => by cases h; omega)
            have e : ([] : List UInt8) ++ [s.get! pos] = pieceU s.data.toList pos (pos + 1) := by
              rw [e1]; unfold pieceU; rw [List.nil_append, Nat.add_sub_cancel_left]
            simp only [openPiece] at ih ⊢
            rw [e]
            exact ih
          | some a =>
            have ih := words_spans s f (pos + 1) (some a) acc (by omega) hlt (fun b h => by cases h; have := hst a rfl; omega)
            simp only [openPiece] at ih ⊢
            rw [e1, pieceU_grow _ _ _ _ (Nat.le_of_lt (hst a rfl))]
            exact ih
      · obtain ⟨hw1, hw2, hr, hc⟩ := decode_cont s pos hlt (by omega)
        have hsp : spP (Utf8.decode s pos).1 = false := by
          have h1 : (Utf8.decode s pos).1 ≠ 32 := by omega
          have h2 : (Utf8.decode s pos).1 ≠ 9 := by omega
          simp [spP, h1, h2]
        have htk : ∀ b ∈ (s.data.toList.drop pos).take (Utf8.decode s pos).2, spB b = false := fun b hb => by
          obtain ⟨j, hj, rfl⟩ := List.getElem_of_mem hb
          have hj' : j < (Utf8.decode s pos).2 := by rw [List.length_take] at hj; omega
          have e : (s.data.toList.drop pos)[j]? = some (s.get! (pos + j)) := by
            have := get_drop s (pos + j) (by omega)
            rw [← List.drop_drop] at this
            have h0 := congrArg (·[0]?) this
            simpa using h0
          rw [List.getElem_take]
          have e2 := List.getElem?_eq_some_iff.1 e
          obtain ⟨_, e3⟩ := e2
          rw [e3]
          exact spB_high (hc j hj')
        rw [wordsGo_take _ _ _ htk, List.drop_drop]
        simp only [spansFromP, if_pos hlt, hsp, Bool.false_eq_true, if_false]
        cases st with
        | none =>
          have ih := words_spans s f (pos + (Utf8.decode s pos).2) (some pos) acc (by omega) hw2 (fun a h => by cases h; omega)
          have e : ([] : List UInt8) ++ (s.data.toList.drop pos).take (Utf8.decode s pos).2 = pieceU s.data.toList pos (pos + (Utf8.decode s pos).2) := by
            unfold pieceU
            rw [List.nil_append, Nat.add_sub_cancel_left]
          simp only [openPiece] at ih ⊢
          rw [e]
          exact ih
        | some a =>
          have ih := words_spans s f (pos + (Utf8.decode s pos).2) (some a) acc (by omega) hw2 (fun b h => by cases h; have := hst a rfl; omega)
          simp only [openPiece] at ih ⊢
          rw [pieceU_grow _ _ _ _ (Nat.le_of_lt (hst a rfl))]
          exact ih
    · obtain rfl : pos = s.size := by omega
      have hd : s.data.toList.drop s.size = [] := List.drop_eq_nil_of_le (by rw [← size_eq]; exact Nat.le_refl _)
      rw [hd, wordsGo_nil, spansFromP_end _ s _ _ _ _ hlt]
      cases st with
      | none => simp [closeSpans, openPiece]
      | some a =>
        have := pieceU_ne s.data.toList a s.size (hst a rfl) (by rw [← size_eq]; exact Nat.le_refl _)
        simp [closeSpans, openPiece, this]

/-- FieldsFunc at blanks and tabs. -/
theorem goFields_words (s : ByteArray) : (goFieldsP spP s).map (·.data.toList) = wordsF s.data.toList := by
  have h := words_spans s s.size 0 none [] (by omega) (Nat.zero_le _) (fun a h => by cases h)
  simp only [List.map_nil, List.nil_append, openPiece, List.drop_zero] at h
  unfold goFieldsP spansOfP wordsF
  rw [h, List.map_map]
  congr 1
  funext p
  simp [pieceU]
end Go.Proofs.YtabjbpkojbdgaaaGreatDoor
