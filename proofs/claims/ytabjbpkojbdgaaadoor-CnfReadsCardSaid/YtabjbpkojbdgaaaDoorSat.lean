/- Contracts of cnf.True, Sat, All and their closures; of slices.IndexFunc and ContainsFunc at rows; of the reference's Sat, All. -/
import Derived.Test.YtabjbpkojbdgaaaDoorCnfA
import Derived.Test.YtabjbpkojbdgaaaDoorSatPlain
namespace Go.Proofs.YtabjbpkojbdgaaaDoor
open Go.RowKit

/-- A predicate that is called at the rows xss. -/
def PredR (g : Nat) (lb : Array Value) (xss : List (List Int)) (p : List Int → Bool) (w : World) : Prop :=
  ∀ (W : World) (A : Option Addr) (n c : Nat) (xs : List Int), Below w.heap.size w W → Ints W A n c xs → xs ∈ xss → Calls Tryd.prog g (#[.slice A n c] ++ lb) W (RetV (.bool (p xs)) W)

theorem any_not_sat (xss : List (List Int)) (a : List Bool) : xss.any (fun xs => !satB a xs) = !allB xss a := by
  unfold allB
  rw [List.any_eq_not_all_not]
  simp

end Go.Proofs.YtabjbpkojbdgaaaDoor
