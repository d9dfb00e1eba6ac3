/- Clauses that may be, plainly: literals in range, no variable twice. -/
import Derived.Test.YtlfgcblijfflfaaGreatPlain
namespace Go.Proofs.YtlfgcblijfflfaaGreat

/-- Literals of variables 1 .. vars, none twice. -/
def Lits (vars : Int) (xs : List Int) : Prop := (∀ x ∈ xs, x ≠ 0 ∧ -vars ≤ x ∧ x ≤ vars) ∧ xs.Pairwise (fun x y => x.natAbs ≠ y.natAbs)

theorem badF_ok (vars : Int) : ∀ (xs pre : List Int), (badF vars pre xs).2 = 0 → badF vars pre xs = (0, 0) ∧ Lits vars xs ∧ ∀ x ∈ pre, ∀ y ∈ xs, x.natAbs ≠ y.natAbs
  | [], _, _ => ⟨rfl, ⟨by simp, List.Pairwise.nil⟩, by simp⟩
  | y :: t, pre, h => by
    rw [badF] at h ⊢
    by_cases h1 : y = 0 ∨ y < -vars ∨ vars < y
    · rw [if_pos h1] at h; simp at h
    · rw [if_neg h1] at h ⊢
      by_cases h2 : (hasB pre y || hasB pre (-y)) = true
      · rw [if_pos h2] at h; simp at h
      · rw [if_neg h2] at h ⊢
        obtain ⟨e, ⟨hr, hp⟩, hd⟩ := badF_ok vars t (pre ++ [y]) h
        have hpre : ∀ x ∈ pre, x.natAbs ≠ y.natAbs := by
          intro x hx he
          have := any_abs y pre
          have h3 : pre.any (fun z => z.natAbs == y.natAbs) = true := List.any_eq_true.2 ⟨x, hx, by simpa using he⟩
          rw [this] at h3
          exact h2 h3
        refine ⟨e, ⟨fun x hx => ?_, List.Pairwise.cons (fun z hz => hd y (by simp) z hz) hp⟩, fun x hx z hz => ?_⟩
        · rcases List.mem_cons.1 hx with rfl | hx
          · exact ⟨by omega, by omega, by omega⟩
          · exact hr x hx
        · rcases List.mem_cons.1 hz with rfl | hz
          · exact hpre x hx
          · exact hd x (by simp [hx]) z hz
theorem badF_pos (vars : Int) : ∀ (xs pre : List Int), 0 ≤ (badF vars pre xs).1 ∧ (badF vars pre xs).1 ≤ (pre.length + xs.length : Nat)
  | [], _ => by simp [badF]
  | y :: t, pre => by
    rw [badF]
    split
    · simp; omega
    · split
      · simp; omega
      · have := badF_pos vars t (pre ++ [y])
        simp at this ⊢
        omega
theorem badF_lits {vars : Int} {xs : List Int} (h : (badF vars [] xs).2 = 0) : badF vars [] xs = (0, 0) ∧ Lits vars xs := ⟨(badF_ok vars xs [] h).1, (badF_ok vars xs [] h).2.1⟩
theorem badF_of_lits (vars : Int) : ∀ (xs pre : List Int), Lits vars xs → (∀ x ∈ pre, ∀ y ∈ xs, x.natAbs ≠ y.natAbs) → badF vars pre xs = (0, 0)
  | [], _, _, _ => rfl
  | y :: t, pre, h, hd => by
    have hy := h.1 y (by simp)
    rw [badF, if_neg (by omega), if_neg]
    · have hp := List.pairwise_cons.1 h.2
      refine badF_of_lits vars t (pre ++ [y]) ⟨fun x hx => h.1 x (by simp [hx]), hp.2⟩ fun x hx z hz => ?_
      rcases List.mem_append.1 hx with hx | hx
      · exact hd x hx z (by simp [hz])
      · simp at hx; subst hx; exact hp.1 z hz
    · rw [← any_abs]
      intro hh
      obtain ⟨x, hx, he⟩ := List.any_eq_true.1 hh
      exact hd x hx y (by simp) (by simpa using he)
theorem lits_iff {vars : Int} {xs : List Int} : Lits vars xs ↔ badF vars [] xs = (0, 0) :=
  ⟨fun h => badF_of_lits vars xs [] h (by simp), fun h => (badF_lits (by rw [h])).2⟩
theorem Lits.nodup {vars : Int} {xs : List Int} (h : Lits vars xs) : xs.Nodup := h.2.imp fun hne e => hne (by rw [e])

theorem length_le_of_sub : ∀ (a b : List Int), a.Nodup → (∀ x ∈ a, x ∈ b) → a.length ≤ b.length
  | [], _, _, _ => Nat.zero_le _
  | x :: t, b, hn, hs => by
    have hx := hs x (by simp)
    have hn' := List.nodup_cons.1 hn
    have := length_le_of_sub t (b.erase x) hn'.2 fun y hy => by
      have hne : y ≠ x := fun e => hn'.1 (e ▸ hy)
      exact (List.mem_erase_of_ne hne).2 (hs y (by simp [hy]))
    rw [List.length_erase_of_mem hx] at this
    have hp : 0 < b.length := List.length_pos_of_mem hx
    simp
    omega

/-- Is all of a in b? -/
def overF (a b : List Int) : Bool := a.all (fun x => hasB b x)
theorem overF_iff {a b : List Int} : overF a b = true ↔ ∀ x ∈ a, x ∈ b := by simp [overF, hasB_iff]
theorem overF_len {a b : List Int} (h : a.Nodup) : (decide (a.length ≤ b.length) && overF a b) = overF a b := by
  cases ho : overF a b
  · simp
  · simp; exact length_le_of_sub a b h (overF_iff.1 ho)
/-- sub.Over: is a over b? or what is wrong with them. -/
def overR (a b : List Int) : Bool × Int × Int :=
  if 120 < a.length then (false, 2, 0) else if (badF 120 [] a).2 ≠ 0 then (false, (badF 120 [] a).2, (badF 120 [] a).1)
  else if 120 < b.length then (false, 2, -1) else if (badF 120 [] b).2 ≠ 0 then (false, (badF 120 [] b).2, -1 - (badF 120 [] b).1) else (overF a b, 0, 0)
end Go.Proofs.YtlfgcblijfflfaaGreat
