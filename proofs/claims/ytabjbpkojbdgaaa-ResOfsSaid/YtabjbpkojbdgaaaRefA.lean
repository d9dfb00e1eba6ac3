/- Contracts of the reference's Has, Of. -/
import Derived.Test.YtabjbpkojbdgaaaProg
import Derived.Test.YtabjbpkojbdgaaaBase
import Derived.Test.YtabjbpkojbdgaaaPlain
namespace Go.Proofs.Ytabjbpkojbdgaaa
open Go.RowKit

theorem has_any (A : Option Addr) (n c : Nat) (xs : List Int) (x : Int) (w : World) (h : Ints w A n c xs) (r : Bool) (hr : Hid (hasB xs x = r)) :
    Calls Try.prog 29 #[.slice A n c, .int .i64 x] w (RetQ (.bool r) w) := by
  have hbd := h.bd
  have hlen := Lib.hid h.len
  go_enter Try.func29, Try.ntmps29
  go_wp2
  go_loop [5] (fun i => ∃ k : Nat, k ≤ n ∧ i = .int .i64 k ∧ Hid (hasB (xs.drop k) x = r)) (fun i => n - (intOf i).toNat)
  case atStart => exact ⟨0, Nat.zero_le _, rfl, hr.out⟩
  case round =>
    obtain ⟨k, hk, rfl, hn⟩ := hrel
    by_cases hlt : k < n
    · obtain ⟨b, off, y, rfl, hb, hcell, -, -, hy⟩ := h.round hlt
      go_wp2
      · have hx : (y == x) = true := by assumption
        go_ret
        exact RetQ.of0 (by rw [← hn.out, drop_cons_of hy.out, hasB, if_pos hx]; rfl)
      · have hx : (y == x) = false := by assumption
        go_round
        case rel => exact ⟨k + 1, by omega, by go_num, by rw [← hn.out, drop_cons_of hy.out, hasB, if_neg (by simp [hx])]; rfl⟩
        case measure => simp [intOf]; omega
    · go_wp2
      go_ret
      exact RetQ.of0 (by rw [← hn.out, List.drop_of_length_le (by have := hlen.out; omega)]; rfl)
end Go.Proofs.Ytabjbpkojbdgaaa
