/- Contract of the reference's Over. -/
import Derived.Test.YtabjbpkojbdgaaaCnfA
import Derived.Test.YtabjbpkojbdgaaaClean
namespace Go.Proofs.Ytabjbpkojbdgaaa
open Go.RowKit

set_option maxHeartbeats 400000 in
theorem over_ref (A B : Option Addr) (n c m d : Nat) (xs ys : List Int) (w : World) (h : Ints w A n c xs) (h' : Ints w B m d ys) (r : Bool) (hr : Hid (overF xs ys = r)) :
    Calls Try.prog 22 #[.slice A n c, .slice B m d] w (RetQ (.bool r) w) := by
  have hbd := h.bd
  have hlen := Lib.hid h.len
  go_enter Try.func22, Try.ntmps22
  go_wp2_with fail
  go_loopw [5] (fun i wr => ∃ k : Nat, k ≤ n ∧ i = .int .i64 k ∧ Hid (overF (xs.drop k) ys = r) ∧ Hid (∃ m, wr = w.drewN m)) (fun i _ => n - (intOf i).toNat)
  case atStart => exact ⟨0, Nat.zero_le _, rfl, hr.out, ⟨0, rfl⟩⟩
  case round =>
    obtain ⟨k, hk, rfl, hn, hB⟩ := hrel
    have hx : Ints wr A n c xs := by obtain ⟨m, rfl⟩ := hB.out; exact h.drewN m
    have hx' : Ints wr B m d ys := by obtain ⟨m, rfl⟩ := hB.out; exact h'.drewN m
    by_cases hlt : k < n
    · obtain ⟨b, off, y, rfl, hb, hcell, y1, y2, hy⟩ := hx.round hlt
      obtain ⟨q, hq⟩ : ∃ q, Hid (hasB ys y = q) := ⟨_, rfl⟩
      have hn2 : Hid ((q && overF (xs.drop (k + 1)) ys) = r) := by
        have := hn.out
        rw [drop_cons_of hy.out, overF, List.all_cons, hq.out] at this
        exact this
      go_wp2_with fail
      refine (has_any _ _ _ _ _ _ hx' _ hq).mono ?_
      rintro e w1 ⟨rfl, m1, rfl⟩
      cases q
      · have : false = r := by rw [← hn2.out]; rfl
        subst this
        go_wp2_with fail
        go_ret
        obtain ⟨m2, rfl⟩ := hB.out
        rw [World.drewN_drewN]
        exact RetQ.of _ rfl
      · go_wp2_with fail
        go_roundw
        case rel => exact ⟨k + 1, by omega, by go_num, by have := hn2.out; simp at this; exact this, by obtain ⟨m, rfl⟩ := hB.out; exact ⟨_, World.drewN_drewN _ _ _⟩⟩
        case measure => simp [intOf]; omega
    · have : true = r := by rw [← hn.out, List.drop_of_length_le (by have := hlen.out; omega)]; rfl
      subst this
      go_wp2_with fail
      go_ret
      obtain ⟨m2, rfl⟩ := hB.out
      exact RetQ.of _ rfl
end Go.Proofs.Ytabjbpkojbdgaaa
