/- Contract of slices.Clip at rows. -/
import Derived.Test.YtlfgcblijfflfaaGreatProg
import Derived.Test.YtlfgcblijfflfaaGreatPool
namespace Go.Proofs.YtlfgcblijfflfaaGreat
open Go.RowKit

theorem clip_any (A : Option Addr) (n c : Nat) (w : World) (hn : n ≤ c) (hc : c ≤ 9223372036854775807) (hA : A = none → c = 0) : Calls Tryz.prog 25 #[.slice A n c] w (RetQ (.slice A n n) w) := by
  cases A with
  | none =>
    obtain rfl := hA rfl
    obtain rfl : n = 0 := by omega
    go_enter Tryz.func25, Tryz.ntmps25
    go_wp2_with fail
    go_ret
    exact RetQ.of0 rfl
  | some a =>
    go_enter Tryz.func25, Tryz.ntmps25
    go_wp2_with fail
    go_ret
    exact RetQ.of0 rfl
theorem Grid.clip {w : World} {A : Option Addr} {n c : Nat} {xss : List (List Int)} (h : Grid w A n c xss) : Grid w A n n xss := by
  obtain ⟨vs, h1, h2, h3⟩ := h.ex
  exact ⟨vs, ⟨h1.len, Nat.le_refl _, Nat.le_trans h1.le h1.cap, h1.at_⟩, h2, h3⟩
theorem OwnP.none_ {e t : TypeId} {w : World} {base low n c : Nat} {A : Option Addr} {xss : List (List Int)} (h : OwnP e t w base low A n c xss) : A = none → c = 0 := fun hA => by
  obtain ⟨vs, h1, _⟩ := h
  rcases h1.form with ⟨_, _, h0, _⟩ | ⟨g, cur, h0, _⟩
  · exact h0
  · rw [hA] at h0; cases h0
end Go.Proofs.YtlfgcblijfflfaaGreat
