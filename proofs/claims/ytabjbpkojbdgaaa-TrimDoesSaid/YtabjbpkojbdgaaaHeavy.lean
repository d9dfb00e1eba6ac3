/- Contract of the law's heavy. -/
import Derived.Test.YtabjbpkojbdgaaaProg
import Derived.Test.YtabjbpkojbdgaaaBase
namespace Go.Proofs.Ytabjbpkojbdgaaa
open Go.RowKit

theorem heavy_any (A : Option Addr) (n c : Nat) (vars : Int) (w : World) (hn : n ≤ 9223372036854775807) (r : Bool) (hr : Hid ((decide (40 < vars) || decide (60 < (n : Int))) = r)) :
    Calls Try.prog 12 #[.agg #[.int .i64 vars, .slice A n c]] w (RetV (.bool r) w) := by
  by_cases h1 : 40 < vars
  · have d1 : decide (40 < vars) = true := decide_eq_true h1
    have : true = r := by rw [← hr.out, d1]; rfl
    subst this
    go_enter Try.func12, Try.ntmps12
    go_wp2_with fail
    go_ret
    exact ⟨rfl, below_new _ _⟩
  · have d1 : decide (40 < vars) = false := decide_eq_false h1
    by_cases h2 : 60 < (n : Int)
    · have d2 : decide (60 < (n : Int)) = true := decide_eq_true h2
      have : true = r := by rw [← hr.out, d1, d2]; rfl
      subst this
      have h3 : 60 < n := by omega
      go_enter Try.func12, Try.ntmps12
      go_wp2_with fail
      go_ret
      exact ⟨rfl, below_new _ _⟩
    · have d2 : decide (60 < (n : Int)) = false := decide_eq_false h2
      have : false = r := by rw [← hr.out, d1, d2]; rfl
      subst this
      have h3 : ¬ 60 < n := by omega
      go_enter Try.func12, Try.ntmps12
      go_wp2_with fail
      go_ret
      exact ⟨rfl, below_new _ _⟩
end Go.Proofs.Ytabjbpkojbdgaaa
