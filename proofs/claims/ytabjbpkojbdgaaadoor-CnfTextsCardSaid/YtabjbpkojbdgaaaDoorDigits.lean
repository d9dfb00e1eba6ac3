/- Contract of the reference's Digits: the decimal numeral; it only draws. -/
import Derived.Test.YtabjbpkojbdgaaaDoorProg
import Derived.Test.YtabjbpkojbdgaaaDoorBase
import Derived.Lib.ItoaLen
namespace Go.Proofs.YtabjbpkojbdgaaaDoor
open Go.RowKit

/-- The bytes of a list as a Go string. -/
def bsOf (l : List UInt8) : ByteArray := ⟨l.toArray⟩
theorem bsOf_append (a b : List UInt8) : bsOf a ++ bsOf b = bsOf (a ++ b) := by
  unfold bsOf
  rw [ByteArray.mk_append_mk]
theorem bsOf_size (l : List UInt8) : (bsOf l).size = l.length := by simp [bsOf, ByteArray.size]

theorem decDigits_big {u : Nat} (h : ¬ u < 10) : Lib.decDigits u = Lib.decDigits (u / 10) ++ Lib.decDigits (u % 10) := by
  have e : Lib.decDigits (u % 10) = [UInt8.ofNat (48 + u % 10)] := by rw [Lib.decDigits, dif_pos (by omega)]
  rw [e]
  conv => lhs; rw [Lib.decDigits, dif_neg h]

theorem decDigits_le (u : Nat) (h : u ≤ 1000000) : (Lib.decDigits u).length ≤ 21 := by
  have := Lib.itoa_length_le (u : Int) (by omega) (by omega)
  rwa [Lib.itoa_nonneg] at this

set_option maxHeartbeats 400000 in
set_option maxRecDepth 100000 in
theorem digit_one (u : Nat) (w : World) (h : u < 10) : Calls Tryd.prog 17 #[.int .i64 u] w (RetQ (.string (bsOf (Lib.decDigits u))) w) := by
  rcases (by omega : u = 0 ∨ u = 1 ∨ u = 2 ∨ u = 3 ∨ u = 4 ∨ u = 5 ∨ u = 6 ∨ u = 7 ∨ u = 8 ∨ u = 9) with rfl | rfl | rfl | rfl | rfl | rfl | rfl | rfl | rfl | rfl <;>
  · go_enter Tryd.func17, Tryd.ntmps17
    go_wp2_with fail
    go_ret
    exact RetQ.of0 (by rw [Lib.decDigits, dif_pos (by omega)]; rfl)

set_option maxHeartbeats 400000 in
set_option maxRecDepth 100000 in
theorem digits_nat : ∀ (m u : Nat) (w : World), u < m → u ≤ 1000000 → Calls Tryd.prog 17 #[.int .i64 u] w (RetQ (.string (bsOf (Lib.decDigits u))) w) := by
  intro m
  induction m with
  | zero => intro u w h1; omega
  | succ m ih =>
    intro u w h1 h2
    have IH := Lib.hid ih
    clear ih
    by_cases hu : u < 10
    · exact digit_one u w hu
    · have h0 : ¬ (u : Int) < 0 := by omega
      have h3 : ¬ (u : Int) < 10 := by omega
      have e1 : Int.tdiv (u : Int) 10 = ((u / 10 : Nat) : Int) := rfl
      have e2 : Int.tmod (u : Int) 10 = ((u % 10 : Nat) : Int) := rfl
      have hd1 := decDigits_le (u / 10) (by omega)
      have hd2 := decDigits_le (u % 10) (by omega)
      go_enter Tryd.func17, Tryd.ntmps17
      go_wp2_with fail
      refine (IH.out (u / 10) _ (by omega) (by omega)).mono ?_
      rintro e w1 ⟨rfl, m1, rfl⟩
      obtain ⟨s1, hs1⟩ : ∃ s, Hid (bsOf (Lib.decDigits (u / 10)) = s) := ⟨_, rfl⟩
      rw [hs1.out]
      have l1 : s1.size ≤ 21 := by rw [← hs1.out, bsOf_size]; exact hd1
      clear e1
      go_wp2_with fail
      refine (IH.out (u % 10) _ (by omega) (by omega)).mono ?_
      rintro e w2 ⟨rfl, m2, rfl⟩
      obtain ⟨s2, hs2⟩ : ∃ s, Hid (bsOf (Lib.decDigits (u % 10)) = s) := ⟨_, rfl⟩
      rw [hs2.out]
      have l2 : s2.size ≤ 21 := by rw [← hs2.out, bsOf_size]; exact hd2
      clear e2
      go_wp2_with fail
      go_ret
      exact RetQ.of (m1 + m2) (by rw [decDigits_big hu, ← bsOf_append, hs1.out, hs2.out]; rfl)

set_option maxHeartbeats 400000 in
set_option maxRecDepth 100000 in
/-- Digits: the decimal numeral. -/
theorem digits_any (n : Int) (w : World) (s : ByteArray) (hs : Hid (bsOf (Lib.itoa n) = s)) (h0 : -1000000 ≤ n) (h1 : n ≤ 1000000) : Calls Tryd.prog 17 #[.int .i64 n] w (RetQ (.string s) w) := by
  rw [← hs.out]
  clear hs
  by_cases hn : n < 0
  · obtain ⟨u, rfl⟩ : ∃ u : Nat, n = -(u : Int) := ⟨n.natAbs, by omega⟩
    rw [Lib.itoa_neg u (by omega)]
    have hu : u ≤ 1000000 := by omega
    have hd := decDigits_le u hu
    go_enter Tryd.func17, Tryd.ntmps17
    go_wp2_with fail
    refine (digits_nat (u + 1) u _ (by omega) hu).mono ?_
    rintro e w1 ⟨rfl, m1, rfl⟩
    obtain ⟨s1, hs1⟩ : ∃ s, Hid (bsOf (Lib.decDigits u) = s) := ⟨_, rfl⟩
    rw [hs1.out]
    have l1 : s1.size ≤ 21 := by rw [← hs1.out, bsOf_size]; exact hd
    go_wp2_with fail
    go_ret
    exact RetQ.of m1 (by rw [show (45 :: Lib.decDigits u) = [45] ++ Lib.decDigits u from rfl, ← bsOf_append, hs1.out]; rfl)
  · obtain ⟨u, rfl⟩ : ∃ u : Nat, n = u := ⟨n.toNat, by omega⟩
    rw [Lib.itoa_nonneg]
    exact digits_nat (u + 1) u w (by omega) (by omega)
end Go.Proofs.YtabjbpkojbdgaaaDoor
