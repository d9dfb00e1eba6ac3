/- Contract of the reference's Digits: the decimal numeral; it only draws. -/
import Derived.Test.YtabjbpkojbdgaaaGreatDoorProg
import Derived.Test.YtabjbpkojbdgaaaGreatDoorBase
import Derived.Lib.ItoaLen
namespace Go.Proofs.YtabjbpkojbdgaaaGreatDoor
open Go.RowKit

/-- The bytes of a list as a Go string. -/
def bsOf (l : List UInt8) : ByteArray := ⟨l.toArray⟩
theorem bsOf_append (a b : List UInt8) : bsOf a ++ bsOf b = bsOf (a ++ b) := by
  unfold bsOf
  rw [ByteArray.mk_append_mk]
theorem bsOf_size (l : List UInt8) : (bsOf l).size = l.length := by simp [bsOf, ByteArray.size]

theorem decDigits_big {u : Nat} (h : ¬ u < 10) : Lib.decDigits u = Lib.decDigits (u / 10) ++ Lib.decDigits (u % 10) := by
  have e : Lib.decDigits (u % 10) = [UInt8.ofNat (48 + u % 10)] := by rw [Lib.decDigits, dif_pos (by omega)]
  rw [e]
  conv => lhs; rw [Lib.decDigits, dif_neg h]

theorem decDigits_le (u : Nat) (h : u ≤ 1000000) : (Lib.decDigits u).length ≤ 21 := by
  have := Lib.itoa_length_le (u : Int) (by omega) (by omega)
  rwa [Lib.itoa_nonneg] at this

end Go.Proofs.YtabjbpkojbdgaaaGreatDoor
