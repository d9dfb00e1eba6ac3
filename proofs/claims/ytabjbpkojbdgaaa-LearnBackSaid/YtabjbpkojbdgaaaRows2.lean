/- Contracts of the reference's Rows, Cnfs; of the law's none. -/
import Derived.Test.YtabjbpkojbdgaaaClone
namespace Go.Proofs.Ytabjbpkojbdgaaa
open Go.RowKit

def rowsB (xss yss : List (List Int)) : Bool := xss == yss
def rowsF : List (List Int) → List (List Int) → Bool
  | x :: t, y :: u => if sameB x y then rowsF t u else false
  | _, _ => true
theorem rowsF_eq : ∀ (xs ys : List (List Int)), xs.length = ys.length → rowsF xs ys = (xs == ys)
  | [], [], _ => rfl
  | [], _ :: _, h => by simp at h
  | _ :: _, [], h => by simp at h
  | x :: t, y :: u, h => by
    rw [rowsF, rowsF_eq t u (by simpa using h), List.cons_beq_cons]
    by_cases hxy : x = y
    · subst hxy; simp [sameB]
    · simp [hxy, sameB]
theorem rowsB_iff {xs ys : List (List Int)} : rowsB xs ys = true ↔ xs = ys := by simp [rowsB]



end Go.Proofs.Ytabjbpkojbdgaaa
