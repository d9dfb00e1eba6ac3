/- Bits of a number, the lowest first. Of no program. -/
import Derived.WalkKit
namespace Go.Proofs.YtlfgcblijfflfaaGreat
open Go.RowKit
set_option linter.unusedSimpArgs false

/-- The bits of a number, the lowest first. -/
def bitW : Nat → Nat → List Bool
  | 0, _ => []
  | k + 1, w => (w % 2 == 1) :: bitW k (w / 2)
theorem bitW_len : ∀ k w, (bitW k w).length = k
  | 0, _ => rfl
  | k + 1, w => by simp [bitW, bitW_len k]
theorem bitW_all : ∀ (qs : List Bool), ∃ w, w < 2 ^ qs.length ∧ bitW qs.length w = qs
  | [] => ⟨0, by simp, rfl⟩
  | q :: r => by
    obtain ⟨w, h1, h2⟩ := bitW_all r
    refine ⟨2 * w + q.toNat, ?_, ?_⟩
    · have : (q :: r).length = r.length + 1 := rfl
      rw [this, Nat.pow_succ]
      cases q <;> simp <;> omega
    · have : (q :: r).length = r.length + 1 := rfl
      rw [this, bitW]
      have h3 : (2 * w + q.toNat) / 2 = w := by cases q <;> simp <;> omega
      rw [h3, h2]
      congr 1
      cases q <;> simp [Nat.add_mod]
theorem bitW_at : ∀ (k w i : Nat), i < k → (bitW k w)[i]? = some (w / 2 ^ i % 2 == 1)
  | 0, _, _, h => by omega
  | k + 1, w, 0, _ => by simp [bitW]
  | k + 1, w, i + 1, h => by
    rw [bitW, List.getElem?_cons_succ, bitW_at k (w / 2) i (by omega), Nat.pow_succ, Nat.div_div_eq_div_mul, Nat.mul_comm (2 ^ i) 2]
theorem bit_andW {k i : Nat} (hk : k < 64) : (bits BinOp.and IntKind.i64 ((k : Int) / 2 ^ i) 1 == 1) = (k / 2 ^ i % 2 == 1) := by
  have h0 : ∀ x : Nat, x < 64 → (bits BinOp.and IntKind.i64 (x : Int) 1 == 1) = (x % 2 == 1) := by decide
  have h1 : ((k : Int) / 2 ^ i) = ((k / 2 ^ i : Nat) : Int) := by simp
  rw [h1]
  exact h0 _ (Nat.lt_of_le_of_lt (Nat.div_le_self _ _) hk)
end Go.Proofs.YtlfgcblijfflfaaGreat
