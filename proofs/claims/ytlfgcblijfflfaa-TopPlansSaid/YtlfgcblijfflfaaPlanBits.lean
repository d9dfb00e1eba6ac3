/- Masks of four facts and the machine's bitwise operations. Of no program. -/
import Derived.WalkKit
import Derived.Test.YtlfgcblijfflfaaPlanPlain
namespace Go.Proofs.Ytlfgcblijfflfaa
open Go.RowKit
set_option linter.unusedSimpArgs false
set_option linter.unusedVariables false

/-- The last four bits. -/
def mkM (z : Int) : Nat := (z % 16).toNat
theorem mkM_lt (z : Int) : mkM z < 16 := by unfold mkM; omega
theorem mkM_nat {k : Nat} (h : k < 16) : mkM (k : Int) = k := by unfold mkM; omega
theorem mkM_bit (z : Int) (i : Nat) (hi : i < 4) : (mkM z).testBit i = (z / 2 ^ i % 2 == 1) := by
  rw [Nat.testBit_eq_decide_div_mod_eq]
  have h : i = 0 ∨ i = 1 ∨ i = 2 ∨ i = 3 := by omega
  unfold mkM
  rcases h with rfl | rfl | rfl | rfl
  all_goals rw [Bool.eq_iff_iff, decide_eq_true_iff, beq_iff_eq]
  all_goals simp only [Int.reducePow, Nat.reducePow]
  all_goals omega
theorem bv_i64 (z : Int) : (BitVec.ofInt 64 z).toNat = (z % 18446744073709551616).toNat := by rw [BitVec.toNat_ofInt]; rfl
theorem wrap_small {k : Nat} (h : k < 9223372036854775808) : IntKind.i64.wrap (k : Int) = k := by rw [IntKind.wrap_i64]; omega
theorem and16 (X c : Nat) (hc : c < 16) : X &&& c = (X % 16) &&& c := by
  apply Nat.eq_of_testBit_eq
  intro i
  rw [Nat.testBit_and, Nat.testBit_and]
  by_cases hi : i < 4
  · rw [show (16 : Nat) = 2 ^ 4 by decide, Nat.testBit_mod_two_pow]
    simp [hi]
  · have hp : 2 ^ 4 ≤ 2 ^ i := Nat.pow_le_pow_right (by omega) (by omega)
    rw [Nat.testBit_lt_two_pow (Nat.lt_of_lt_of_le hc hp)]
    simp
theorem mkM_bv (z : Int) : (BitVec.ofInt 64 z).toNat % 16 = mkM z := by rw [bv_i64]; unfold mkM; omega
/-- 'z & c', c small. -/
theorem and_c (z : Int) (c : Nat) (hc : c < 16) : bits .and .i64 z (c : Int) = ((mkM z &&& c : Nat) : Int) := by
  have h2 : (BitVec.ofInt 64 (c : Int)).toNat = c := by rw [bv_i64]; omega
  show IntKind.i64.wrap ((BitVec.ofInt 64 z &&& BitVec.ofInt 64 (c : Int)).toNat : Int) = _
  rw [BitVec.toNat_and, h2, and16 _ c hc, mkM_bv]
  exact wrap_small (Nat.lt_of_le_of_lt Nat.and_le_right (by omega))
theorem mkM_wrap (k : Nat) : mkM (IntKind.i64.wrap (k : Int)) = k % 16 := by rw [IntKind.wrap_i64]; unfold mkM; omega
/-- 'z &^ c', c small: its last four bits. -/
theorem andNot_c (z : Int) (c : Nat) (hc : c < 16) : mkM (bits .andNot .i64 z (c : Int)) = mkM z &&& (15 ^^^ c) := by
  have h2 : (BitVec.ofInt 64 (c : Int)).toNat = c := by rw [bv_i64]; omega
  show mkM (IntKind.i64.wrap ((BitVec.ofInt 64 z &&& ~~~ BitVec.ofInt 64 (c : Int)).toNat : Int)) = _
  rw [mkM_wrap, ← mkM_bv z]
  apply Nat.eq_of_testBit_eq
  intro i
  rw [show (16 : Nat) = 2 ^ 4 by decide, Nat.testBit_mod_two_pow, Nat.testBit_and, Nat.testBit_mod_two_pow, Nat.testBit_xor]
  by_cases hi : i < 4
  · have h15 : (15 : Nat).testBit i = true := by
      have h : ∀ i, i < 4 → (15 : Nat).testBit i = true := by decide
      exact h i hi
    have hb : (BitVec.ofInt 64 z &&& ~~~ BitVec.ofInt 64 (c : Int)).toNat.testBit i = ((BitVec.ofInt 64 z).toNat.testBit i && !c.testBit i) := by
      rw [← BitVec.getLsbD, BitVec.getLsbD_and, BitVec.getLsbD_not, BitVec.getLsbD, BitVec.getLsbD, h2]
      have : i < 64 := by omega
      simp [this]
    rw [hb, h15]
    simp [hi]
  · simp [hi]
theorem andNot_i64 (z : Int) (c : Int) : -9223372036854775808 ≤ bits .andNot .i64 z c ∧ bits .andNot .i64 z c ≤ 9223372036854775807 := by
  obtain ⟨m, hm⟩ : ∃ m : Int, bits .andNot .i64 z c = IntKind.i64.wrap m := ⟨_, rfl⟩
  rw [hm, IntKind.wrap_i64]
  omega
theorem and_one (z : Int) : bits .and .i64 z 1 = z % 2 := by
  have h := and_c z 1 (by omega)
  rw [show ((1 : Nat) : Int) = 1 by rfl] at h
  rw [h, Nat.and_one_is_mod]
  unfold mkM
  omega
theorem and_n {a b : Nat} (ha : a < 16) (hb : b < 16) : bits .and .i64 (a : Int) (b : Int) = ((a &&& b : Nat) : Int) := by rw [and_c _ b hb, mkM_nat ha]
theorem or_n {a b : Nat} (ha : a < 16) (hb : b < 16) : bits .or .i64 (a : Int) (b : Int) = ((a ||| b : Nat) : Int) := by
  have h1 : (BitVec.ofInt 64 (a : Int)).toNat = a := by rw [bv_i64]; omega
  have h2 : (BitVec.ofInt 64 (b : Int)).toNat = b := by rw [bv_i64]; omega
  have h3 : a ||| b < 16 := Nat.or_lt_two_pow (n := 4) ha hb
  show IntKind.i64.wrap ((BitVec.ofInt 64 (a : Int) ||| BitVec.ofInt 64 (b : Int)).toNat : Int) = _
  rw [BitVec.toNat_or, h1, h2]
  exact wrap_small (by omega)
theorem andNot_n {a b : Nat} (ha : a < 16) (hb : b < 16) : bits .andNot .i64 (a : Int) (b : Int) = ((a &&& (15 ^^^ b) : Nat) : Int) := by
  have h1 : (BitVec.ofInt 64 (a : Int)).toNat = a := by rw [bv_i64]; omega
  have h2 : (BitVec.ofInt 64 (b : Int)).toNat = b := by rw [bv_i64]; omega
  have h3 : (BitVec.ofInt 64 (a : Int) &&& ~~~ BitVec.ofInt 64 (b : Int)).toNat < 16 := by
    rw [BitVec.toNat_and, h1]
    exact Nat.lt_of_le_of_lt Nat.and_le_left ha
  have h4 := andNot_c (a : Int) b hb
  rw [mkM_nat ha] at h4
  have h5 : bits .andNot .i64 (a : Int) (b : Int) = ((BitVec.ofInt 64 (a : Int) &&& ~~~ BitVec.ofInt 64 (b : Int)).toNat : Int) := wrap_small (k := (BitVec.ofInt 64 (a : Int) &&& ~~~ BitVec.ofInt 64 (b : Int)).toNat) (by omega)
  rw [h5] at h4 ⊢
  rw [mkM_nat h3] at h4
  rw [h4]
/-- The mask of a list of facts. -/
def bitsL : List Int → Nat → Nat
  | [], o => o
  | f :: r, o => bitsL r (o ||| 2 ^ f.toNat)
theorem bitsL_some : ∀ z, z < 16 → bitsL (someF z) 0 = z := by decide
theorem act_masks (x : Int) (a : Ac) (h1 : a.need = mkM x &&& 5) (h2 : a.bar = mkM (x / 16) &&& 8) (h3 : a.add = mkM (x / 256) &&& 7) (h4 : a.drop = mkM (x / 256) &&& 8) : AcOk a := by
  have e1 : ∀ m, m < 16 → m &&& 5 < 16 ∧ m &&& 8 < 16 ∧ m &&& 7 < 16 ∧ (m &&& 7) &&& (m &&& 8) = 0 := by decide
  have e2 : ∀ m, m < 16 → ∀ k, k < 16 → (m &&& 5) &&& (k &&& 8) = 0 := by decide
  have a1 := e1 _ (mkM_lt x)
  have a2 := e1 _ (mkM_lt (x / 16))
  have a3 := e1 _ (mkM_lt (x / 256))
  exact ⟨by rw [h1]; exact a1.1, by rw [h2]; exact a2.2.1, by rw [h3]; exact a3.2.2.1, by rw [h4]; exact a3.2.1, by rw [h3, h4]; exact a3.2.2.2, by rw [h1, h2]; exact e2 _ (mkM_lt _) _ (mkM_lt _)⟩
end Go.Proofs.Ytlfgcblijfflfaa
