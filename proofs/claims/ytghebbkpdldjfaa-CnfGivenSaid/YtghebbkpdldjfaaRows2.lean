/- Contracts of the reference's Rows, Cnfs; of the law's none. -/
import Derived.Test.YtghebbkpdldjfaaClone
namespace Go.Proofs.Ytghebbkpdldjfaa
open Go.RowKit

def rowsB (xss yss : List (List Int)) : Bool := xss == yss
def rowsF : List (List Int) → List (List Int) → Bool
  | x :: t, y :: u => if sameB x y then rowsF t u else false
  | _, _ => true
theorem rowsF_eq : ∀ (xs ys : List (List Int)), xs.length = ys.length → rowsF xs ys = (xs == ys)
  | [], [], _ => rfl
  | [], _ :: _, h => by simp at h
  | _ :: _, [], h => by simp at h
  | x :: t, y :: u, h => by
    rw [rowsF, rowsF_eq t u (by simpa using h), List.cons_beq_cons]
    by_cases hxy : x = y
    · subst hxy; simp [sameB]
    · simp [hxy, sameB]
theorem rowsB_iff {xs ys : List (List Int)} : rowsB xs ys = true ↔ xs = ys := by simp [rowsB]



theorem none_any (A : Option Addr) (n c : Nat) (v : Int) (w : World) (hn : n ≤ 9223372036854775807) (r : Bool) (hr : Hid (((v == 0) && ((n : Int) == 0)) = r)) :
    Calls Try.prog 13 #[.agg #[.int .i64 v, .slice A n c]] w (RetV (.bool r) w) := by
  have _h := hn
  cases hvu : (v == 0)
  · have : false = r := by rw [← hr.out, hvu]; rfl
    subst this
    go_enter Try.func13, Try.ntmps13
    go_wp2_with fail
    go_ret
    exact ⟨rfl, below_new _ _⟩
  · have hr' : ((n : Int) == 0) = r := by have := hr.out; rw [hvu] at this; simpa using this
    clear hr
    go_enter Try.func13, Try.ntmps13
    go_wp2_with fail
    go_ret
    exact ⟨rfl, below_new _ _⟩
end Go.Proofs.Ytghebbkpdldjfaa
