/- The Luby sequence, plainly. -/
import Derived.WalkKit
namespace Go.Proofs.Ytehhhidjgngibaa

/-- p is the greatest power of 2 that is at most n. -/
def Top (n p : Nat) : Prop := (∃ j, p = 2 ^ j) ∧ p ≤ n ∧ n < 2 * p
theorem Top.pos {n p : Nat} (h : Top n p) : 1 ≤ p := by
  obtain ⟨⟨j, rfl⟩, _⟩ := h
  exact Nat.one_le_two_pow
theorem Top.log {n p : Nat} (h : Top n p) : p = 2 ^ n.log2 := by
  obtain ⟨⟨j, rfl⟩, h1, h2⟩ := h
  have hn : n ≠ 0 := by have := Nat.one_le_two_pow (n := j); omega
  have h3 : n.log2 = j := by
    rw [Nat.log2_eq_iff hn]
    exact ⟨h1, by rw [Nat.pow_succ]; omega⟩
  rw [h3]
theorem top_log {n : Nat} (h : n ≠ 0) : Top n (2 ^ n.log2) := by
  have h1 := (Nat.log2_eq_iff (n := n) (k := n.log2) h).1 rfl
  exact ⟨⟨_, rfl⟩, h1.1, by have := h1.2; rw [Nat.pow_succ] at this; omega⟩
theorem luby_dec {n : Nat} (h : ¬ (n = 0 ∨ n + 1 = 2 * 2 ^ n.log2)) : n - 2 ^ n.log2 + 1 < n := by
  have hn : n ≠ 0 := fun e => h (.inl e)
  obtain ⟨⟨j, hj⟩, h1, h2⟩ := top_log hn
  have h3 : n + 1 ≠ 2 * 2 ^ n.log2 := fun e => h (.inr e)
  rw [hj] at h1 h2 h3 ⊢
  cases j with
  | zero => simp at *; omega
  | succ j => have := Nat.one_le_two_pow (n := j); rw [Nat.pow_succ] at *; omega
def luby (n : Nat) : Nat := if h : n = 0 ∨ n + 1 = 2 * 2 ^ n.log2 then 2 ^ n.log2 else luby (n - 2 ^ n.log2 + 1)
termination_by n
decreasing_by exact luby_dec h
theorem luby_end {n p : Nat} (h : Top n p) (e : n + 1 = 2 * p) : luby n = p := by
  have := h.log
  rw [luby, dif_pos (.inr (by rw [← this]; exact e)), this]
theorem luby_on {n p : Nat} (h : Top n p) (e : n + 1 ≠ 2 * p) : luby n = luby (n - p + 1) := by
  have hp := h.log
  have hn : n ≠ 0 := by have := h.pos; have := h.2.1; omega
  rw [luby, dif_neg (by rw [← hp]; intro hh; rcases hh with hh | hh; exact hn hh; exact e hh), ← hp]
theorem luby_lt {n p : Nat} (h : Top n p) (e : n + 1 ≠ 2 * p) : n - p + 1 < n := by
  have hp := h.log
  have hn : n ≠ 0 := by have := h.pos; have := h.2.1; omega
  rw [hp]
  exact luby_dec (by rw [← hp]; intro hh; rcases hh with hh | hh; exact hn hh; exact e hh)
theorem luby_pow (k : Nat) : luby (2 ^ (k + 1) - 1) = 2 ^ k := by
  have := Nat.one_le_two_pow (n := k)
  have e : 2 ^ (k + 1) = 2 * 2 ^ k := by rw [Nat.pow_succ]; omega
  exact luby_end ⟨⟨k, rfl⟩, by omega, by omega⟩ (by omega)
theorem luby_again (k i : Nat) (h1 : 1 ≤ i) (h2 : i < 2 ^ (k + 1)) : luby (2 ^ (k + 1) - 1 + i) = luby i := by
  have := Nat.one_le_two_pow (n := k)
  have e : 2 ^ (k + 1) = 2 * 2 ^ k := by rw [Nat.pow_succ]; omega
  rw [luby_on (p := 2 ^ (k + 1)) ⟨⟨k + 1, rfl⟩, by omega, by omega⟩ (by omega)]
  congr 1
  omega
theorem luby_pos : ∀ n : Nat, 1 ≤ luby n := by
  intro n
  induction n using Nat.strongRecOn with
  | _ n ih =>
    rw [luby]
    split
    · exact Nat.one_le_two_pow
    · rename_i h; exact ih _ (luby_dec h)
end Go.Proofs.Ytehhhidjgngibaa
