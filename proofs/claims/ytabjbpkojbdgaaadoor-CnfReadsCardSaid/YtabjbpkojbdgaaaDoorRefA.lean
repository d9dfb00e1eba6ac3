/- Contracts of the reference's Has, Of. -/
import Derived.Test.YtabjbpkojbdgaaaDoorProg
import Derived.Test.YtabjbpkojbdgaaaDoorBase
import Derived.Test.YtabjbpkojbdgaaaDoorPlain
namespace Go.Proofs.YtabjbpkojbdgaaaDoor
open Go.RowKit

theorem has_any (A : Option Addr) (n c : Nat) (xs : List Int) (x : Int) (w : World) (h : Ints w A n c xs) (r : Bool) (hr : Hid (hasB xs x = r)) :
    Calls Tryd.prog 28 #[.slice A n c, .int .i64 x] w (RetQ (.bool r) w) := by
  have hbd := h.bd
  have hlen := Lib.hid h.len
  go_enter Tryd.func28, Tryd.ntmps28
  go_wp2
  go_loop [5] (fun i => ∃ k : Nat, k ≤ n ∧ i = .int .i64 k ∧ Hid (hasB (xs.drop k) x = r)) (fun i => n - (intOf i).toNat)
  case atStart => exact ⟨0, Nat.zero_le _, rfl, hr.out⟩
  case round =>
    obtain ⟨k, hk, rfl, hn⟩ := hrel
    by_cases hlt : k < n
    · obtain ⟨b, off, y, rfl, hb, hcell, -, -, hy⟩ := h.round hlt
      go_wp2
      · have hx : (y == x) = true := by assumption
        go_ret
        exact RetQ.of0 (by rw [← hn.out, drop_cons_of hy.out, hasB, if_pos hx]; rfl)
      · have hx : (y == x) = false := by assumption
        go_round
        case rel => exact ⟨k + 1, by omega, by go_num, by rw [← hn.out, drop_cons_of hy.out, hasB, if_neg (by simp [hx])]; rfl⟩
        case measure => simp [intOf]; omega
    · go_wp2
      go_ret
      exact RetQ.of0 (by rw [← hn.out, List.drop_of_length_le (by have := hlen.out; omega)]; rfl)
end Go.Proofs.YtabjbpkojbdgaaaDoor
