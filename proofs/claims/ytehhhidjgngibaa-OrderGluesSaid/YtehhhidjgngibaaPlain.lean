/- Plain functions on lists and numbers that the walks compute; no program in sight. -/
import Derived.WalkKit
namespace Go.Proofs.Ytehhhidjgngibaa

def hasB : List Int → Int → Bool
  | [], _ => false
  | y :: t, x => if y == x then true else hasB t x
theorem hasB_iff {l : List Int} {x : Int} : hasB l x = true ↔ x ∈ l := by
  induction l with
  | nil => simp [hasB]
  | cons y t ih =>
    rw [hasB]
    by_cases h : y = x
    · subst h; simp
    · have : ¬ x = y := fun e => h e.symm
      simp [h, ih, this]
theorem hasB_false {l : List Int} {x : Int} : hasB l x = false ↔ x ∉ l := by
  rw [← hasB_iff]; simp
theorem hasB_append (l t : List Int) (x : Int) : hasB (l ++ t) x = (hasB l x || hasB t x) := by
  rw [Bool.eq_iff_iff, Bool.or_eq_true, hasB_iff, hasB_iff, hasB_iff, List.mem_append]

/-- How many unlike levels; or the first that is below 0 (code 3, its place). 'pre': what was looked at. -/
def glueF : List Int → List Int → Nat → Int × Int × Int
  | _, [], many => (many, 0, 0)
  | pre, y :: t, many => if y < 0 then (0, 3, pre.length) else glueF (pre ++ [y]) t (if hasB pre y then many else many + 1)
end Go.Proofs.Ytehhhidjgngibaa
