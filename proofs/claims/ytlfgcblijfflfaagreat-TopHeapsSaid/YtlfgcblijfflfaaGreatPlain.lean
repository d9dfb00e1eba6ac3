/- Plain functions on lists and numbers that the walks compute; no program in sight. -/
import Derived.WalkKit
namespace Go.Proofs.YtlfgcblijfflfaaGreat

def hasB : List Int → Int → Bool
  | [], _ => false
  | y :: t, x => if y == x then true else hasB t x
theorem hasB_iff {l : List Int} {x : Int} : hasB l x = true ↔ x ∈ l := by
  induction l with
  | nil => simp [hasB]
  | cons y t ih =>
    rw [hasB]
    by_cases h : y = x
    · subst h; simp
    · have : ¬ x = y := fun e => h e.symm
      simp [h, ih, this]
theorem hasB_false {l : List Int} {x : Int} : hasB l x = false ↔ x ∉ l := by
  rw [← hasB_iff]; simp
theorem hasB_append (l t : List Int) (x : Int) : hasB (l ++ t) x = (hasB l x || hasB t x) := by
  rw [Bool.eq_iff_iff, Bool.or_eq_true, hasB_iff, hasB_iff, hasB_iff, List.mem_append]

/-- The first place at which p holds, from place i on; or -1. -/
def idxF {α : Type} (p : α → Bool) : List α → Nat → Int
  | [], _ => -1
  | y :: t, i => if p y then i else idxF p t (i + 1)
theorem idxF_any {α : Type} (p : α → Bool) : ∀ (l : List α) (i : Nat), decide (0 ≤ idxF p l i) = l.any p
  | [], _ => by simp [idxF]
  | y :: t, i => by
    rw [idxF, List.any_cons]
    by_cases h : p y
    · simp [h]
    · simp only [h, Bool.false_or]
      exact idxF_any p t (i + 1)

theorem any_has (x : Int) : ∀ l : List Int, l.any (fun y => x == y) = hasB l x
  | [] => rfl
  | y :: t => by
    rw [List.any_cons, hasB, any_has x t]
    by_cases h : y = x
    · subst h; simp
    · have : ¬ x = y := fun e => h e.symm
      simp [h, this]

/-- The first literal that is wrong: its place and the code; 'pre': what was looked at. -/
def badF (vars : Int) : List Int → List Int → Int × Int
  | _, [] => (0, 0)
  | pre, y :: t => if y = 0 ∨ y < -vars ∨ vars < y then (pre.length, 3) else if hasB pre y || hasB pre (-y) then (pre.length, 7) else badF vars (pre ++ [y]) t
theorem any_abs (y : Int) : ∀ l : List Int, l.any (fun z => z.natAbs == y.natAbs) = (hasB l y || hasB l (-y))
  | [] => rfl
  | z :: t => by
    rw [List.any_cons, any_abs y t, hasB, hasB]
    by_cases h1 : z = y
    · subst h1; simp
    · by_cases h2 : z = -y
      · subst h2; simp
      · have : ¬ z.natAbs = y.natAbs := by omega
        simp [h1, h2, this]

def checkRows (vars : Int) : List (List Int) → Nat → Int × Int
  | [], _ => (0, 0)
  | l :: t, i => if 24 < l.length then (2, i) else if (badF vars [] l).2 ≠ 0 then ((badF vars [] l).2, i) else checkRows vars t (i + 1)
/-- What is wrong with clauses: a code and a place. -/
def checkC (vars : Int) (xss : List (List Int)) : Int × Int :=
  if vars < 0 ∨ 120 < vars then (3, 0) else if 400 < xss.length then (2, 0) else checkRows vars xss 0

/-- How many unlike levels; or the first that is below 0 (code 3, its place). 'pre': what was looked at. -/
def glueF : List Int → List Int → Nat → Int × Int × Int
  | _, [], many => (many, 0, 0)
  | pre, y :: t, many => if y < 0 then (0, 3, pre.length) else glueF (pre ++ [y]) t (if hasB pre y then many else many + 1)
end Go.Proofs.YtlfgcblijfflfaaGreat
