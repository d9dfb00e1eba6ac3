/- Resolutions, plainly: what a list of them brings, that each clause may be, and that it holds where all do. -/
import Derived.Test.YtabjbpkojbdgaaaResRef
import Derived.Test.YtabjbpkojbdgaaaUnitPlain
namespace Go.Proofs.Ytabjbpkojbdgaaa

/-- The program's: as rsF, but it looks for the literal first. -/
def rsP (v : Int) : List Int → List Int → Option (List Int)
  | [], o => some o
  | x :: r, o => if (x.natAbs : Int) == v then rsP v r o else if hasB o x then rsP v r o else if hasB o (-x) then none else rsP v r (o ++ [x])
theorem rsP_eq (v : Int) : ∀ (l o : List Int), (∀ x ∈ l, x ≠ 0) → (∀ x ∈ o, -x ∉ o) → rsP v l o = rsF v l o
  | [], _, _, _ => rfl
  | x :: r, o, h0, ho => by
    have hr : ∀ y ∈ r, y ≠ 0 := fun y hy => h0 y (by simp [hy])
    rw [rsP, rsF, rsP_eq v r o hr ho]
    by_cases h1 : ((x.natAbs : Int) == v) = true
    · rw [if_pos h1, if_pos h1]
    · rw [if_neg h1, if_neg h1]
      cases h2 : hasB o x
      · cases h3 : hasB o (-x)
        · simp only [Bool.false_eq_true, if_false]
          refine rsP_eq v r (o ++ [x]) hr fun y hy hn => ?_
          have hx0 := h0 x (by simp)
          rcases List.mem_append.1 hy with hy | hy
          · rcases List.mem_append.1 hn with hn | hn
            · exact ho y hy hn
            · simp at hn
              have : y = -x := by omega
              subst this
              exact hasB_false.1 h3 hy
          · simp at hy
            subst hy
            rcases List.mem_append.1 hn with hn | hn
            · exact hasB_false.1 h3 hn
            · simp at hn; omega
        · simp
      · have h3 : hasB o (-x) = false := hasB_false.2 (ho x (hasB_iff.1 h2))
        rw [h3]
        simp
/-- What comes out: literals of l, not of the variable, and those that were there. -/
theorem rsF_mem (v : Int) : ∀ (l o o' : List Int), rsF v l o = some o' → ∀ z, z ∈ o' ↔ z ∈ o ∨ (z ∈ l ∧ (z.natAbs : Int) ≠ v)
  | [], o, o', h, z => by simp [rsF] at h; subst h; simp
  | x :: r, o, o', h, z => by
    rw [rsF] at h
    by_cases h1 : ((x.natAbs : Int) == v) = true
    · rw [if_pos h1] at h
      rw [rsF_mem v r o o' h z]
      simp at h1
      constructor
      · rintro (h2 | ⟨h2, h3⟩)
        · exact .inl h2
        · exact .inr ⟨by simp [h2], h3⟩
      · rintro (h2 | ⟨h2, h3⟩)
        · exact .inl h2
        · rcases List.mem_cons.1 h2 with rfl | h2
          · exact absurd h1 h3
          · exact .inr ⟨h2, h3⟩
    · rw [if_neg h1] at h
      simp at h1
      cases h3 : hasB o (-x)
      · rw [h3, if_neg (by simp)] at h
        cases h2 : hasB o x
        · rw [h2, if_neg (by simp)] at h
          rw [rsF_mem v r _ o' h z]
          simp only [List.mem_append, List.mem_cons, List.not_mem_nil, or_false]
          constructor
          · rintro ((h4 | rfl) | ⟨h4, h5⟩)
            · exact .inl h4
            · exact .inr ⟨.inl rfl, h1⟩
            · exact .inr ⟨.inr h4, h5⟩
          · rintro (h4 | ⟨rfl | h4, h5⟩)
            · exact .inl (.inl h4)
            · exact .inl (.inr rfl)
            · exact .inr ⟨h4, h5⟩
        · rw [h2, if_pos rfl] at h
          rw [rsF_mem v r o o' h z]
          constructor
          · rintro (h4 | ⟨h4, h5⟩)
            · exact .inl h4
            · exact .inr ⟨by simp [h4], h5⟩
          · rintro (h4 | ⟨h4, h5⟩)
            · exact .inl h4
            · rcases List.mem_cons.1 h4 with rfl | h4
              · exact .inl (hasB_iff.1 h2)
              · exact .inr ⟨h4, h5⟩
      · rw [h3, if_pos rfl] at h; cases h
theorem rsF_two' (v : Int) : ∀ (l o o' : List Int), rsF v l o = some o' → o.Pairwise (fun x y => x.natAbs ≠ y.natAbs) → o'.Pairwise (fun x y => x.natAbs ≠ y.natAbs)
  | [], o, o', h, hp => by simp [rsF] at h; subst h; exact hp
  | x :: r, o, o', h, hp => by
    rw [rsF] at h
    by_cases h1 : ((x.natAbs : Int) == v) = true
    · rw [if_pos h1] at h
      exact rsF_two' v r o o' h hp
    · rw [if_neg h1] at h
      cases h3 : hasB o (-x)
      · rw [h3, if_neg (by simp)] at h
        cases h2 : hasB o x
        · rw [h2, if_neg (by simp)] at h
          refine rsF_two' v r _ o' h ?_
          rw [List.pairwise_append]
          refine ⟨hp, by simp, fun a ha b hb => ?_⟩
          simp at hb
          subst hb
          intro e
          have n1 := hasB_false.1 h2
          have n2 := hasB_false.1 h3
          rcases (by omega : a = b ∨ a = -b) with e1 | e1
          · exact n1 (e1 ▸ ha)
          · exact n2 (e1 ▸ ha)
        · rw [h2, if_pos rfl] at h
          exact rsF_two' v r o o' h hp
      · rw [h3, if_pos rfl] at h; cases h
theorem resF_parts {a b l : List Int} {v : Int} (h : resF a b v = (l, 0)) : v ∈ a ∧ -v ∈ b ∧ ∃ o, rsF v (a ++ b) [] = some o ∧ l = sortF o := by
  unfold resF at h
  by_cases h1 : (!hasB a v || !hasB b (-v)) = true
  · rw [if_pos h1] at h; simp at h
  · rw [if_neg h1] at h
    simp [hasB_iff] at h1
    refine ⟨h1.1, h1.2, ?_⟩
    cases h2 : rsF v (a ++ b) []
    · rw [h2] at h; simp at h
    · rw [h2] at h
      simp at h
      exact ⟨_, rfl, h.symm⟩
theorem resF_lits {vars v : Int} {a b l : List Int} (ha : Lits vars a) (hb : Lits vars b) (h : resF a b v = (l, 0)) : Lits vars l := by
  obtain ⟨_, _, o, ho, rfl⟩ := resF_parts h
  refine Lits.sortF ⟨fun x hx => ?_, rsF_two' v _ _ _ ho List.Pairwise.nil⟩
  rcases (rsF_mem v _ _ _ ho x).1 hx with hx | ⟨hx, _⟩
  · simp at hx
  · rcases List.mem_append.1 hx with hx | hx
    · exact ha.1 x hx
    · exact hb.1 x hx
theorem resF_code0 {a b : List Int} {v : Int} (h : (resF a b v).2 ≠ 0) : (resF a b v).1 = [] := by
  unfold resF at h ⊢
  split
  · rfl
  · rename_i h1
    rw [if_neg h1] at h
    cases h2 : rsF v (a ++ b) []
    · rfl
    · rw [h2] at h; simp at h
theorem litB_not {a : List Bool} {y : Int} (h : y ≠ 0) : litB a (-y) = !litB a y := by
  unfold litB
  rw [Int.natAbs_neg]
  rcases Int.lt_or_gt_of_ne h with h1 | h1
  · have e1 : decide (0 < -y) = true := by simpa using h1
    have e2 : decide (0 < y) = false := by simp; omega
    rw [e1, e2]
    cases (a[y.natAbs - 1]?.getD false) <;> rfl
  · have e1 : decide (0 < -y) = false := by simp; omega
    have e2 : decide (0 < y) = true := by simpa using h1
    rw [e1, e2]
    cases (a[y.natAbs - 1]?.getD false) <;> rfl
theorem Lits.only {vars v x : Int} {a : List Int} (h : Lits vars a) (hv : v ∈ a) (hx : x ∈ a) (he : x.natAbs = v.natAbs) : x = v := by
  have hp := h.2
  obtain ⟨i, hi, rfl⟩ := List.getElem_of_mem hv
  obtain ⟨j, hj, rfl⟩ := List.getElem_of_mem hx
  rw [List.pairwise_iff_getElem] at hp
  rcases Nat.lt_trichotomy i j with hij | rfl | hij
  · exact absurd he.symm (hp i j hi hj hij)
  · rfl
  · exact absurd he (hp j i hj hi hij)
/-- ROBINSON: the resolvent holds where both do. -/
theorem resF_sat {vars v : Int} {a b l : List Int} {m : List Bool} (ha : Lits vars a) (hb : Lits vars b) (h : resF a b v = (l, 0)) (hv : 1 ≤ v) (sa : satB m a = true) (sb : satB m b = true) : satB m l = true := by
  obtain ⟨ma, mb, o, ho, rfl⟩ := resF_parts h
  obtain ⟨x, hx, lx⟩ := List.any_eq_true.1 sa
  obtain ⟨y, hy, ly⟩ := List.any_eq_true.1 sb
  rw [satB_perm (sortF_perm o)]
  by_cases h1 : (x.natAbs : Int) = v
  · have e1 := ha.only ma hx (by omega)
    by_cases h2 : (y.natAbs : Int) = v
    · have e2 := hb.only mb hy (by omega)
      subst e1 e2
      rw [litB_not (by omega), lx] at ly
      cases ly
    · exact List.any_eq_true.2 ⟨y, (rsF_mem v _ _ _ ho y).2 (.inr ⟨by simp [hy], h2⟩), ly⟩
  · exact List.any_eq_true.2 ⟨x, (rsF_mem v _ _ _ ho x).2 (.inr ⟨by simp [hx], h1⟩), lx⟩

/-- A resolution: the places of two clauses, and the variable. -/
abbrev R3 := Int × Int × Int
/-- Is it out of range? -/
def outB (vars : Int) (n : Nat) (r : R3) : Bool := decide (r.1 < 0) || decide ((n : Int) ≤ r.1) || decide (r.2.1 < 0) || decide ((n : Int) ≤ r.2.1) || decide (r.2.2 < 1) || decide (vars < r.2.2)
def oneF (vars : Int) (all : List (List Int)) (r : R3) : List Int × Int :=
  if outB vars all.length r then ([], 3) else resF (all.getD r.1.toNat []) (all.getD r.2.1.toNat []) r.2.2
/-- All clauses then, or a code and a place. -/
def ressF (vars : Int) : List R3 → List (List Int) → Nat → List (List Int) × Int × Int
  | [], all, _ => (all, 0, 0)
  | r :: t, all, i => if (oneF vars all r).2 ≠ 0 then ([], (oneF vars all r).2, i) else ressF vars t (all ++ [(oneF vars all r).1]) (i + 1)
theorem outB_iff {vars : Int} {n : Nat} {r : R3} : outB vars n r = false ↔ (0 ≤ r.1 ∧ r.1 < n) ∧ (0 ≤ r.2.1 ∧ r.2.1 < n) ∧ 1 ≤ r.2.2 ∧ r.2.2 ≤ vars := by
  unfold outB
  simp only [Bool.or_eq_false_iff, decide_eq_false_iff_not]
  omega
theorem getD_mem {all : List (List Int)} {k : Int} (h0 : 0 ≤ k) (h1 : k < all.length) : all.getD k.toNat [] ∈ all := by
  have : k.toNat < all.length := by omega
  rw [List.getD_eq_getElem?_getD, List.getElem?_eq_getElem this]
  simp
theorem oneF_lits {vars : Int} {all : List (List Int)} {r : R3} (h : ∀ x ∈ all, Lits vars x) (h0 : (oneF vars all r).2 = 0) : Lits vars (oneF vars all r).1 := by
  unfold oneF at h0 ⊢
  cases ho : outB vars all.length r
  · rw [ho, if_neg (by simp)] at h0
    rw [if_neg (by simp)]
    obtain ⟨⟨a1, a2⟩, ⟨b1, b2⟩, _⟩ := outB_iff.1 ho
    exact resF_lits (h _ (getD_mem a1 a2)) (h _ (getD_mem b1 b2)) (Prod.ext rfl h0)
  · rw [ho, if_pos rfl] at h0; simp at h0
theorem oneF_sat {vars : Int} {all : List (List Int)} {r : R3} {m : List Bool} (h : ∀ x ∈ all, Lits vars x) (h0 : (oneF vars all r).2 = 0) (hs : allB all m = true) : satB m (oneF vars all r).1 = true := by
  unfold oneF at h0 ⊢
  cases ho : outB vars all.length r
  · rw [ho, if_neg (by simp)] at h0
    rw [if_neg (by simp)]
    obtain ⟨⟨a1, a2⟩, ⟨b1, b2⟩, c1, _⟩ := outB_iff.1 ho
    have hs' := List.all_eq_true.1 hs
    exact resF_sat (h _ (getD_mem a1 a2)) (h _ (getD_mem b1 b2)) (Prod.ext rfl h0) c1 (hs' _ (getD_mem a1 a2)) (hs' _ (getD_mem b1 b2))
  · rw [ho, if_pos rfl] at h0; simp at h0
theorem ressF_ok {vars : Int} {m : List Bool} : ∀ (l : List R3) (all : List (List Int)) (i : Nat), (∀ x ∈ all, Lits vars x) → (ressF vars l all i).2.1 = 0 →
    (ressF vars l all i).2 = (0, 0) ∧ (ressF vars l all i).1.length = all.length + l.length ∧ (ressF vars l all i).1.take all.length = all ∧ (∀ x ∈ (ressF vars l all i).1, Lits vars x) ∧ (allB all m = true → allB (ressF vars l all i).1 m = true)
  | [], all, i, h, _ => by simp [ressF]; exact h
  | r :: t, all, i, h, h0 => by
    rw [ressF] at h0 ⊢
    by_cases h1 : (oneF vars all r).2 ≠ 0
    · rw [if_pos h1] at h0; exact absurd h0 h1
    · rw [if_neg h1] at h0 ⊢
      have h1' : (oneF vars all r).2 = 0 := by simpa using h1
      have hn : ∀ x ∈ all ++ [(oneF vars all r).1], Lits vars x := by
        intro x hx
        rcases List.mem_append.1 hx with hx | hx
        · exact h x hx
        · simp at hx; subst hx; exact oneF_lits h h1'
      obtain ⟨e1, e2, e3, e4, e5⟩ := ressF_ok t _ (i + 1) hn h0
      refine ⟨e1, by rw [e2]; simp; omega, ?_, e4, fun hs => e5 ?_⟩
      · have := congrArg (List.take all.length) e3
        rw [List.take_take] at this
        simpa using this
      · unfold allB at hs ⊢
        rw [List.all_append, hs]
        simp [oneF_sat h h1' hs]
theorem ressF_bad {vars : Int} : ∀ (l : List R3) (all : List (List Int)) (i : Nat), (ressF vars l all i).2.1 ≠ 0 → (ressF vars l all i).1 = []
  | [], all, i, h => by simp [ressF] at h
  | r :: t, all, i, h => by
    rw [ressF] at h ⊢
    split
    · rfl
    · rename_i h1
      rw [if_neg h1] at h
      exact ressF_bad t _ _ h
end Go.Proofs.Ytabjbpkojbdgaaa
