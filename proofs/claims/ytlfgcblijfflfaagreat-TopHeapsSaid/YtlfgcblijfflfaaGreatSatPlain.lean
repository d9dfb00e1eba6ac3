/- When literals, clauses and formulas hold, plainly. -/
import Derived.Test.YtlfgcblijfflfaaGreatClean
namespace Go.Proofs.YtlfgcblijfflfaaGreat

def litB (a : List Bool) (x : Int) : Bool := (a[x.natAbs - 1]?.getD false) == decide (0 < x)
def satB (a : List Bool) (xs : List Int) : Bool := xs.any (litB a)
def allB (xss : List (List Int)) (a : List Bool) : Bool := xss.all (satB a)
/-- Literals of m variables. -/
def InLits (m : Nat) (xs : List Int) : Prop := ∀ x ∈ xs, x ≠ 0 ∧ -(m : Int) ≤ x ∧ x ≤ m
theorem Lits.inLits {vars : Int} {m : Nat} {xs : List Int} (h : Lits vars xs) (e : (m : Int) = vars) : InLits m xs := fun x hx => by
  have := h.1 x hx
  omega

theorem checkRows_ok (vars : Int) : ∀ (xss : List (List Int)) (i : Nat), (checkRows vars xss i).1 = 0 → checkRows vars xss i = (0, 0) ∧ ∀ xs ∈ xss, xs.length ≤ 24 ∧ Lits vars xs
  | [], _, _ => ⟨rfl, by simp⟩
  | l :: t, i, h => by
    rw [checkRows] at h ⊢
    by_cases h1 : 24 < l.length
    · rw [if_pos h1] at h; simp at h
    · rw [if_neg h1] at h ⊢
      by_cases h2 : (badF vars [] l).2 ≠ 0
      · rw [if_pos h2] at h; simp at h; exact absurd h h2
      · rw [if_neg h2] at h ⊢
        obtain ⟨e, ht⟩ := checkRows_ok vars t (i + 1) h
        refine ⟨e, fun xs hx => ?_⟩
        rcases List.mem_cons.1 hx with rfl | hx
        · exact ⟨by omega, (badF_lits (by simpa using h2)).2⟩
        · exact ht xs hx
theorem checkC_ok {vars : Int} {xss : List (List Int)} (h : (checkC vars xss).1 = 0) : checkC vars xss = (0, 0) ∧ 0 ≤ vars ∧ vars ≤ 120 ∧ xss.length ≤ 400 ∧ ∀ xs ∈ xss, xs.length ≤ 24 ∧ Lits vars xs := by
  unfold checkC at h ⊢
  by_cases h1 : vars < 0 ∨ 120 < vars
  · rw [if_pos h1] at h; simp at h
  · rw [if_neg h1] at h ⊢
    by_cases h2 : 400 < xss.length
    · rw [if_pos h2] at h; simp at h
    · rw [if_neg h2] at h ⊢
      have := checkRows_ok vars xss 0 h
      exact ⟨this.1, by omega, by omega, by omega, this.2⟩
theorem checkRows_of (vars : Int) : ∀ (xss : List (List Int)) (i : Nat), (∀ xs ∈ xss, xs.length ≤ 24 ∧ Lits vars xs) → checkRows vars xss i = (0, 0)
  | [], _, _ => rfl
  | l :: t, i, h => by
    have hl := h l (by simp)
    rw [checkRows, if_neg (by omega), lits_iff.1 hl.2, if_neg (by simp)]
    exact checkRows_of vars t (i + 1) fun xs hx => h xs (by simp [hx])
theorem checkC_of {vars : Int} {xss : List (List Int)} (h0 : 0 ≤ vars) (h1 : vars ≤ 120) (h2 : xss.length ≤ 400) (h3 : ∀ xs ∈ xss, xs.length ≤ 24 ∧ Lits vars xs) : checkC vars xss = (0, 0) := by
  rw [checkC, if_neg (by omega), if_neg (by omega)]
  exact checkRows_of vars xss 0 h3
end Go.Proofs.YtlfgcblijfflfaaGreat
