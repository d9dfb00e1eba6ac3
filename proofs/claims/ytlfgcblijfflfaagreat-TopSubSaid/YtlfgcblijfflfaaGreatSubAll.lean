/- SubAll: the texts ResRef, ResPlain, SubPlain, SubSound, Over, SubLoops, SubStr, Concat, Resolve, Trips, ResCheck, SubDo in one. -/
import Derived.Test.YtlfgcblijfflfaaGreatRefSort
import Derived.Test.YtlfgcblijfflfaaGreatRefA
import Derived.Test.YtlfgcblijfflfaaGreatUnitPlain
import Derived.Test.YtlfgcblijfflfaaGreatSortPlain
import Derived.Test.YtlfgcblijfflfaaGreatCnfA
import Derived.Test.YtlfgcblijfflfaaGreatClean
import Derived.Test.YtlfgcblijfflfaaGreatClone
import Derived.Test.YtlfgcblijfflfaaGreatBoxes
import Derived.Test.YtlfgcblijfflfaaGreatGrid
import Derived.Lib.AppendZeros
import Derived.Test.YtlfgcblijfflfaaGreatSorted
import Derived.Test.YtlfgcblijfflfaaGreatTail
import Derived.Test.YtlfgcblijfflfaaGreatOpen
import Derived.Deep.Strs
import Derived.Test.YtlfgcblijfflfaaGreatCloneR
import Derived.Test.YtlfgcblijfflfaaGreatCnfB
import Derived.Test.YtlfgcblijfflfaaGreatNorm
import Derived.Test.YtlfgcblijfflfaaGreatDelete
import Derived.Test.YtlfgcblijfflfaaGreatDelFunc
/- Contract of the reference's Resolved. (Printed by wip/tools/resref.py.) -/
namespace Go.Proofs.YtlfgcblijfflfaaGreat
open Go.RowKit

/-- The literals of two clauses, one behind the other, but those of a variable, none twice; none: a literal and its negation. -/
def rsF (v : Int) : List Int → List Int → Option (List Int)
  | [], o => some o
  | x :: r, o => if (x.natAbs : Int) == v then rsF v r o else if hasB o (-x) then none else if hasB o x then rsF v r o else rsF v r (o ++ [x])
def resF (a b : List Int) (v : Int) : List Int × Int :=
  if !hasB a v || !hasB b (-v) then ([], 5) else match rsF v (a ++ b) [] with
    | none => ([], 7)
    | some o => (sortF o, 0)
/-- A row, and a code. -/
def RetRes (l : List Int) (code : Int) (w : World) (e : Ending) (w' : World) : Prop :=
  ∃ L nl cl, e = .returned (.tuple #[.slice L nl cl, .int .i64 code]) ∧ (Ints w' L nl cl l ∧ Own 3 w' w.heap.size L nl cl (l.map (Value.int .i64))) ∧ Below w.heap.size w w'

end Go.Proofs.YtlfgcblijfflfaaGreat

/- Resolutions, plainly: what a list of them brings, that each clause may be, and that it holds where all do. -/
namespace Go.Proofs.YtlfgcblijfflfaaGreat

/-- The program's: as rsF, but it looks for the literal first. -/
def rsP (v : Int) : List Int → List Int → Option (List Int)
  | [], o => some o
  | x :: r, o => if (x.natAbs : Int) == v then rsP v r o else if hasB o x then rsP v r o else if hasB o (-x) then none else rsP v r (o ++ [x])
theorem rsP_eq (v : Int) : ∀ (l o : List Int), (∀ x ∈ l, x ≠ 0) → (∀ x ∈ o, -x ∉ o) → rsP v l o = rsF v l o
  | [], _, _, _ => rfl
  | x :: r, o, h0, ho => by
    have hr : ∀ y ∈ r, y ≠ 0 := fun y hy => h0 y (by simp [hy])
    rw [rsP, rsF, rsP_eq v r o hr ho]
    by_cases h1 : ((x.natAbs : Int) == v) = true
    · rw [if_pos h1, if_pos h1]
    · rw [if_neg h1, if_neg h1]
      cases h2 : hasB o x
      · cases h3 : hasB o (-x)
        · simp only [Bool.false_eq_true, if_false]
          refine rsP_eq v r (o ++ [x]) hr fun y hy hn => ?_
          have hx0 := h0 x (by simp)
          rcases List.mem_append.1 hy with hy | hy
          · rcases List.mem_append.1 hn with hn | hn
            · exact ho y hy hn
            · simp at hn
              have : y = -x := by omega
              subst this
              exact hasB_false.1 h3 hy
          · simp at hy
            subst hy
            rcases List.mem_append.1 hn with hn | hn
            · exact hasB_false.1 h3 hn
            · simp at hn; omega
        · simp
      · have h3 : hasB o (-x) = false := hasB_false.2 (ho x (hasB_iff.1 h2))
        rw [h3]
        simp
/-- What comes out: literals of l, not of the variable, and those that were there. -/
theorem rsF_mem (v : Int) : ∀ (l o o' : List Int), rsF v l o = some o' → ∀ z, z ∈ o' ↔ z ∈ o ∨ (z ∈ l ∧ (z.natAbs : Int) ≠ v)
  | [], o, o', h, z => by simp [rsF] at h; subst h; simp
  | x :: r, o, o', h, z => by
    rw [rsF] at h
    by_cases h1 : ((x.natAbs : Int) == v) = true
    · rw [if_pos h1] at h
      rw [rsF_mem v r o o' h z]
      simp at h1
      constructor
      · rintro (h2 | ⟨h2, h3⟩)
        · exact .inl h2
        · exact .inr ⟨by simp [h2], h3⟩
      · rintro (h2 | ⟨h2, h3⟩)
        · exact .inl h2
        · rcases List.mem_cons.1 h2 with rfl | h2
          · exact absurd h1 h3
          · exact .inr ⟨h2, h3⟩
    · rw [if_neg h1] at h
      simp at h1
      cases h3 : hasB o (-x)
      · rw [h3, if_neg (by simp)] at h
        cases h2 : hasB o x
        · rw [h2, if_neg (by simp)] at h
          rw [rsF_mem v r _ o' h z]
          simp only [List.mem_append, List.mem_cons, List.not_mem_nil, or_false]
          constructor
          · rintro ((h4 | rfl) | ⟨h4, h5⟩)
            · exact .inl h4
            · exact .inr ⟨.inl rfl, h1⟩
            · exact .inr ⟨.inr h4, h5⟩
          · rintro (h4 | ⟨rfl | h4, h5⟩)
            · exact .inl (.inl h4)
            · exact .inl (.inr rfl)
            · exact .inr ⟨h4, h5⟩
        · rw [h2, if_pos rfl] at h
          rw [rsF_mem v r o o' h z]
          constructor
          · rintro (h4 | ⟨h4, h5⟩)
            · exact .inl h4
            · exact .inr ⟨by simp [h4], h5⟩
          · rintro (h4 | ⟨h4, h5⟩)
            · exact .inl h4
            · rcases List.mem_cons.1 h4 with rfl | h4
              · exact .inl (hasB_iff.1 h2)
              · exact .inr ⟨h4, h5⟩
      · rw [h3, if_pos rfl] at h; cases h
theorem rsF_two' (v : Int) : ∀ (l o o' : List Int), rsF v l o = some o' → o.Pairwise (fun x y => x.natAbs ≠ y.natAbs) → o'.Pairwise (fun x y => x.natAbs ≠ y.natAbs)
  | [], o, o', h, hp => by simp [rsF] at h; subst h; exact hp
  | x :: r, o, o', h, hp => by
    rw [rsF] at h
    by_cases h1 : ((x.natAbs : Int) == v) = true
    · rw [if_pos h1] at h
      exact rsF_two' v r o o' h hp
    · rw [if_neg h1] at h
      cases h3 : hasB o (-x)
      · rw [h3, if_neg (by simp)] at h
        cases h2 : hasB o x
        · rw [h2, if_neg (by simp)] at h
          refine rsF_two' v r _ o' h ?_
          rw [List.pairwise_append]
          refine ⟨hp, by simp, fun a ha b hb => ?_⟩
          simp at hb
          subst hb
          intro e
          have n1 := hasB_false.1 h2
          have n2 := hasB_false.1 h3
          rcases (by omega : a = b ∨ a = -b) with e1 | e1
          · exact n1 (e1 ▸ ha)
          · exact n2 (e1 ▸ ha)
        · rw [h2, if_pos rfl] at h
          exact rsF_two' v r o o' h hp
      · rw [h3, if_pos rfl] at h; cases h
theorem resF_parts {a b l : List Int} {v : Int} (h : resF a b v = (l, 0)) : v ∈ a ∧ -v ∈ b ∧ ∃ o, rsF v (a ++ b) [] = some o ∧ l = sortF o := by
  unfold resF at h
  by_cases h1 : (!hasB a v || !hasB b (-v)) = true
  · rw [if_pos h1] at h; simp at h
  · rw [if_neg h1] at h
    simp [hasB_iff] at h1
    refine ⟨h1.1, h1.2, ?_⟩
    cases h2 : rsF v (a ++ b) []
    · rw [h2] at h; simp at h
    · rw [h2] at h
      simp at h
      exact ⟨_, rfl, h.symm⟩
theorem resF_lits {vars v : Int} {a b l : List Int} (ha : Lits vars a) (hb : Lits vars b) (h : resF a b v = (l, 0)) : Lits vars l := by
  obtain ⟨_, _, o, ho, rfl⟩ := resF_parts h
  refine Lits.sortF ⟨fun x hx => ?_, rsF_two' v _ _ _ ho List.Pairwise.nil⟩
  rcases (rsF_mem v _ _ _ ho x).1 hx with hx | ⟨hx, _⟩
  · simp at hx
  · rcases List.mem_append.1 hx with hx | hx
    · exact ha.1 x hx
    · exact hb.1 x hx
theorem resF_code0 {a b : List Int} {v : Int} (h : (resF a b v).2 ≠ 0) : (resF a b v).1 = [] := by
  unfold resF at h ⊢
  split
  · rfl
  · rename_i h1
    rw [if_neg h1] at h
    cases h2 : rsF v (a ++ b) []
    · rfl
    · rw [h2] at h; simp at h
theorem litB_not {a : List Bool} {y : Int} (h : y ≠ 0) : litB a (-y) = !litB a y := by
  unfold litB
  rw [Int.natAbs_neg]
  rcases Int.lt_or_gt_of_ne h with h1 | h1
  · have e1 : decide (0 < -y) = true := by simpa using h1
    have e2 : decide (0 < y) = false := by simp; omega
    rw [e1, e2]
    cases (a[y.natAbs - 1]?.getD false) <;> rfl
  · have e1 : decide (0 < -y) = false := by simp; omega
    have e2 : decide (0 < y) = true := by simpa using h1
    rw [e1, e2]
    cases (a[y.natAbs - 1]?.getD false) <;> rfl
theorem Lits.only {vars v x : Int} {a : List Int} (h : Lits vars a) (hv : v ∈ a) (hx : x ∈ a) (he : x.natAbs = v.natAbs) : x = v := by
  have hp := h.2
  obtain ⟨i, hi, rfl⟩ := List.getElem_of_mem hv
  obtain ⟨j, hj, rfl⟩ := List.getElem_of_mem hx
  rw [List.pairwise_iff_getElem] at hp
  rcases Nat.lt_trichotomy i j with hij | rfl | hij
  · exact absurd he.symm (hp i j hi hj hij)
  · rfl
  · exact absurd he (hp j i hj hi hij)
/-- ROBINSON: the resolvent holds where both do. -/
theorem resF_sat {vars v : Int} {a b l : List Int} {m : List Bool} (ha : Lits vars a) (hb : Lits vars b) (h : resF a b v = (l, 0)) (hv : 1 ≤ v) (sa : satB m a = true) (sb : satB m b = true) : satB m l = true := by
  obtain ⟨ma, mb, o, ho, rfl⟩ := resF_parts h
  obtain ⟨x, hx, lx⟩ := List.any_eq_true.1 sa
  obtain ⟨y, hy, ly⟩ := List.any_eq_true.1 sb
  rw [satB_perm (sortF_perm o)]
  by_cases h1 : (x.natAbs : Int) = v
  · have e1 := ha.only ma hx (by omega)
    by_cases h2 : (y.natAbs : Int) = v
    · have e2 := hb.only mb hy (by omega)
      subst e1 e2
      rw [litB_not (by omega), lx] at ly
      cases ly
    · exact List.any_eq_true.2 ⟨y, (rsF_mem v _ _ _ ho y).2 (.inr ⟨by simp [hy], h2⟩), ly⟩
  · exact List.any_eq_true.2 ⟨x, (rsF_mem v _ _ _ ho x).2 (.inr ⟨by simp [hx], h1⟩), lx⟩

/-- A resolution: the places of two clauses, and the variable. -/
abbrev R3 := Int × Int × Int
/-- Is it out of range? -/
def outB (vars : Int) (n : Nat) (r : R3) : Bool := decide (r.1 < 0) || decide ((n : Int) ≤ r.1) || decide (r.2.1 < 0) || decide ((n : Int) ≤ r.2.1) || decide (r.2.2 < 1) || decide (vars < r.2.2)
def oneF (vars : Int) (all : List (List Int)) (r : R3) : List Int × Int :=
  if outB vars all.length r then ([], 3) else resF (all.getD r.1.toNat []) (all.getD r.2.1.toNat []) r.2.2
/-- All clauses then, or a code and a place. -/
def ressF (vars : Int) : List R3 → List (List Int) → Nat → List (List Int) × Int × Int
  | [], all, _ => (all, 0, 0)
  | r :: t, all, i => if (oneF vars all r).2 ≠ 0 then ([], (oneF vars all r).2, i) else ressF vars t (all ++ [(oneF vars all r).1]) (i + 1)
theorem outB_iff {vars : Int} {n : Nat} {r : R3} : outB vars n r = false ↔ (0 ≤ r.1 ∧ r.1 < n) ∧ (0 ≤ r.2.1 ∧ r.2.1 < n) ∧ 1 ≤ r.2.2 ∧ r.2.2 ≤ vars := by
  unfold outB
  simp only [Bool.or_eq_false_iff, decide_eq_false_iff_not]
  omega
theorem getD_mem {all : List (List Int)} {k : Int} (h0 : 0 ≤ k) (h1 : k < all.length) : all.getD k.toNat [] ∈ all := by
  have : k.toNat < all.length := by omega
  rw [List.getD_eq_getElem?_getD, List.getElem?_eq_getElem this]
  simp
theorem oneF_lits {vars : Int} {all : List (List Int)} {r : R3} (h : ∀ x ∈ all, Lits vars x) (h0 : (oneF vars all r).2 = 0) : Lits vars (oneF vars all r).1 := by
  unfold oneF at h0 ⊢
  cases ho : outB vars all.length r
  · rw [ho, if_neg (by simp)] at h0
    rw [if_neg (by simp)]
    obtain ⟨⟨a1, a2⟩, ⟨b1, b2⟩, _⟩ := outB_iff.1 ho
    exact resF_lits (h _ (getD_mem a1 a2)) (h _ (getD_mem b1 b2)) (Prod.ext rfl h0)
  · rw [ho, if_pos rfl] at h0; simp at h0
theorem oneF_sat {vars : Int} {all : List (List Int)} {r : R3} {m : List Bool} (h : ∀ x ∈ all, Lits vars x) (h0 : (oneF vars all r).2 = 0) (hs : allB all m = true) : satB m (oneF vars all r).1 = true := by
  unfold oneF at h0 ⊢
  cases ho : outB vars all.length r
  · rw [ho, if_neg (by simp)] at h0
    rw [if_neg (by simp)]
    obtain ⟨⟨a1, a2⟩, ⟨b1, b2⟩, c1, _⟩ := outB_iff.1 ho
    have hs' := List.all_eq_true.1 hs
    exact resF_sat (h _ (getD_mem a1 a2)) (h _ (getD_mem b1 b2)) (Prod.ext rfl h0) c1 (hs' _ (getD_mem a1 a2)) (hs' _ (getD_mem b1 b2))
  · rw [ho, if_pos rfl] at h0; simp at h0
theorem ressF_ok {vars : Int} {m : List Bool} : ∀ (l : List R3) (all : List (List Int)) (i : Nat), (∀ x ∈ all, Lits vars x) → (ressF vars l all i).2.1 = 0 →
    (ressF vars l all i).2 = (0, 0) ∧ (ressF vars l all i).1.length = all.length + l.length ∧ (ressF vars l all i).1.take all.length = all ∧ (∀ x ∈ (ressF vars l all i).1, Lits vars x) ∧ (allB all m = true → allB (ressF vars l all i).1 m = true)
  | [], all, i, h, _ => by simp [ressF]; exact h
  | r :: t, all, i, h, h0 => by
    rw [ressF] at h0 ⊢
    by_cases h1 : (oneF vars all r).2 ≠ 0
    · rw [if_pos h1] at h0; exact absurd h0 h1
    · rw [if_neg h1] at h0 ⊢
      have h1' : (oneF vars all r).2 = 0 := by simpa using h1
      have hn : ∀ x ∈ all ++ [(oneF vars all r).1], Lits vars x := by
        intro x hx
        rcases List.mem_append.1 hx with hx | hx
        · exact h x hx
        · simp at hx; subst hx; exact oneF_lits h h1'
      obtain ⟨e1, e2, e3, e4, e5⟩ := ressF_ok t _ (i + 1) hn h0
      refine ⟨e1, by rw [e2]; simp; omega, ?_, e4, fun hs => e5 ?_⟩
      · have := congrArg (List.take all.length) e3
        rw [List.take_take] at this
        simpa using this
      · unfold allB at hs ⊢
        rw [List.all_append, hs]
        simp [oneF_sat h h1' hs]
theorem ressF_bad {vars : Int} : ∀ (l : List R3) (all : List (List Int)) (i : Nat), (ressF vars l all i).2.1 ≠ 0 → (ressF vars l all i).1 = []
  | [], all, i, h => by simp [ressF] at h
  | r :: t, all, i, h => by
    rw [ressF] at h ⊢
    split
    · rfl
    · rename_i h1
      rw [if_neg h1] at h
      exact ressF_bad t _ _ h
end Go.Proofs.YtlfgcblijfflfaaGreat

/- Clauses without what others say, plainly. -/
namespace Go.Proofs.YtlfgcblijfflfaaGreat

/-- The first clause (from k on) of which a, clause number i, says no more; or -1. -/
def subIn (a : List Int) (i : Nat) : List (List Int) → Nat → Int
  | [], _ => -1
  | b :: t, k => if (i != k) && overF a b then k else subIn a i t (k + 1)
def subFst (all : List (List Int)) : List (List Int) → Nat → Int
  | [], _ => -1
  | a :: t, i => if 0 ≤ subIn a i all 0 then subIn a i all 0 else subFst all t (i + 1)
/-- The number of the clause that goes; or -1. -/
def fstF (l : List (List Int)) : Int := subFst l l 0
/-- The literal that b loses: one of a turned is over b; or 0. -/
def strP (a b : List Int) : List Int → Nat → Int
  | [], _ => 0
  | x :: t, p => if overF (a.set p (-x)) b then -x else strP a b t (p + 1)
def strIn (a : List Int) : List (List Int) → Nat → Nat × Int
  | [], _ => (0, 0)
  | b :: t, k => if strP a b a 0 ≠ 0 then (k, strP a b a 0) else strIn a t (k + 1)
def strFst (all : List (List Int)) : List (List Int) → Nat × Int
  | [] => (0, 0)
  | a :: t => if (strIn a all 0).2 ≠ 0 then strIn a all 0 else strFst all t
/-- The clause that loses a literal, and that one; (0, 0): none. -/
def sndF (l : List (List Int)) : Nat × Int := strFst l l
/-- Clause k without the literal x. -/
def cutF (l : List (List Int)) (k : Nat) (x : Int) : List Int := (l.getD k []).filter (fun y => y != x)
def subF : Nat → List (List Int) → List (List Int)
  | 0, l => l
  | f + 1, l => if 0 ≤ fstF l then subF f (l.eraseIdx (fstF l).toNat) else if (sndF l).2 = 0 then l else subF f (normF (l.set (sndF l).1 (cutF l (sndF l).1 (sndF l).2)))
/-- How many literals and clauses there are. -/
def muF (l : List (List Int)) : Nat := (l.map (fun x => x.length + 1)).sum

theorem subIn_spec (a : List Int) (i : Nat) : ∀ (l : List (List Int)) (k : Nat), subIn a i l k = -1 ∨ ∃ j b, l[j]? = some b ∧ subIn a i l k = (k + j : Nat) ∧ i ≠ k + j ∧ overF a b = true
  | [], _ => .inl rfl
  | b :: t, k => by
    rw [subIn]
    split
    · rename_i h
      simp only [Bool.and_eq_true] at h
      exact .inr ⟨0, b, rfl, rfl, by simpa using h.1, h.2⟩
    · rcases subIn_spec a i t (k + 1) with h | ⟨j, c, h1, h2, h3, h4⟩
      · exact .inl h
      · exact .inr ⟨j + 1, c, by simpa using h1, by rw [h2]; congr 1; omega, by omega, h4⟩
theorem subFst_spec (all : List (List Int)) : ∀ (l : List (List Int)) (i : Nat), subFst all l i = -1 ∨ ∃ p a j b, l[p]? = some a ∧ all[j]? = some b ∧ subFst all l i = (j : Nat) ∧ i + p ≠ j ∧ overF a b = true
  | [], _ => .inl rfl
  | a :: t, i => by
    rw [subFst]
    rcases subIn_spec a i all 0 with h | ⟨j, b, h1, h2, h3, h4⟩
    · rw [h, if_neg (by omega)]
      rcases subFst_spec all t (i + 1) with h' | ⟨p, a', j, b, h1, h2, h3, h4, h5⟩
      · exact .inl h'
      · exact .inr ⟨p + 1, a', j, b, by simpa using h1, h2, h3, by omega, h5⟩
    · rw [h2, if_pos (by omega)]
      exact .inr ⟨0, a, j, b, rfl, h1, by simp, by omega, h4⟩
theorem fstF_spec (l : List (List Int)) : fstF l = -1 ∨ ∃ i a j b, l[i]? = some a ∧ l[j]? = some b ∧ fstF l = (j : Nat) ∧ i ≠ j ∧ overF a b = true := by
  rcases subFst_spec l l 0 with h | ⟨p, a, j, b, h1, h2, h3, h4, h5⟩
  · exact .inl h
  · exact .inr ⟨p, a, j, b, h1, h2, h3, by omega, h5⟩
theorem strP_spec (a b : List Int) : ∀ (l : List Int) (p : Nat), strP a b l p = 0 ∨ ∃ q x, l[q]? = some x ∧ strP a b l p = -x ∧ overF (a.set (p + q) (-x)) b = true
  | [], _ => .inl rfl
  | x :: t, p => by
    rw [strP]
    split
    · rename_i h; exact .inr ⟨0, x, rfl, rfl, h⟩
    · rcases strP_spec a b t (p + 1) with h | ⟨q, y, h1, h2, h3⟩
      · exact .inl h
      · exact .inr ⟨q + 1, y, by simpa using h1, h2, by rw [show p + (q + 1) = p + 1 + q by omega]; exact h3⟩
theorem strIn_spec (a : List Int) : ∀ (l : List (List Int)) (k : Nat), (strIn a l k).2 = 0 ∨ ∃ j b, l[j]? = some b ∧ (strIn a l k).1 = k + j ∧ (strIn a l k).2 = strP a b a 0
  | [], _ => .inl rfl
  | b :: t, k => by
    rw [strIn]
    split
    · exact .inr ⟨0, b, rfl, rfl, rfl⟩
    · rcases strIn_spec a t (k + 1) with h | ⟨j, c, h1, h2, h3⟩
      · exact .inl h
      · exact .inr ⟨j + 1, c, by simpa using h1, by rw [h2]; omega, h3⟩
theorem strFst_spec (all : List (List Int)) : ∀ (l : List (List Int)), (strFst all l).2 = 0 ∨ ∃ a j b, a ∈ l ∧ all[j]? = some b ∧ (strFst all l).1 = j ∧ (strFst all l).2 = strP a b a 0
  | [] => .inl rfl
  | a :: t => by
    rw [strFst]
    split
    · rename_i h
      rcases strIn_spec a all 0 with h' | ⟨j, b, h1, h2, h3⟩
      · exact absurd h' h
      · exact .inr ⟨a, j, b, by simp, h1, by omega, h3⟩
    · rcases strFst_spec all t with h | ⟨a', j, b, h1, h2, h3, h4⟩
      · exact .inl h
      · exact .inr ⟨a', j, b, by simp [h1], h2, h3, h4⟩
/-- What the second says: a has x, b has -x and all of the rest of a. -/
theorem sndF_spec {l : List (List Int)} (h : (sndF l).2 ≠ 0) : ∃ a ∈ l, ∃ b x, l[(sndF l).1]? = some b ∧ (sndF l).2 = -x ∧ x ∈ a ∧ -x ∈ b ∧ ∀ y ∈ a, y ≠ x → y ∈ b := by
  rcases strFst_spec l l with h' | ⟨a, j, b, h1, h2, h3, h4⟩
  · exact absurd h' h
  · have h4' : (sndF l).2 = strP a b a 0 := h4
    rcases strP_spec a b a 0 with h5 | ⟨q, x, h5, h6, h7⟩
    · rw [h5] at h4'; exact absurd h4' h
    · refine ⟨a, h1, b, x, by rw [show (sndF l).1 = j from h3]; exact h2, by rw [h4', h6], List.mem_of_getElem? h5, ?_, fun y hy hne => ?_⟩
      · have hl : 0 + q < a.length := by rw [Nat.zero_add]; exact (List.getElem?_eq_some_iff.1 h5).1
        exact overF_iff.1 h7 (-x) (List.mem_of_getElem? (List.getElem?_set_self hl))
      · obtain ⟨i, hi⟩ := List.getElem?_of_mem hy
        have hiq : 0 + q ≠ i := fun e => by
          rw [Nat.zero_add] at e
          subst e
          rw [h5] at hi
          cases hi
          exact hne rfl
        exact overF_iff.1 h7 y (List.mem_of_getElem? (by rw [List.getElem?_set_ne hiq]; exact hi))
theorem fstF_lt {l : List (List Int)} (h : 0 ≤ fstF l) : (fstF l).toNat < l.length := by
  rcases fstF_spec l with h' | ⟨i, a, j, b, h1, h2, h3, h4, h5⟩
  · omega
  · rw [h3]
    have := (List.getElem?_eq_some_iff.1 h2).1
    simpa using this
theorem sndF_lt {l : List (List Int)} (h : (sndF l).2 ≠ 0) : (sndF l).1 < l.length := by
  obtain ⟨a, _, b, x, h1, _⟩ := sndF_spec h
  exact (List.getElem?_eq_some_iff.1 h1).1
theorem cons_erase_perm {l : List (List Int)} {k : Nat} (h : k < l.length) : (l[k] :: l.eraseIdx k).Perm l := by
  induction l generalizing k with
  | nil => simp at h
  | cons a t ih =>
    cases k with
    | zero => exact .refl _
    | succ k =>
      have hk : k < t.length := by simpa using h
      exact (List.Perm.swap a t[k] (t.eraseIdx k)).trans ((ih hk).cons a)
/-- Less each time. -/
theorem muF_append (l m : List (List Int)) : muF (l ++ m) = muF l + muF m := by simp [muF]
theorem muF_perm {l m : List (List Int)} (h : l.Perm m) : muF l = muF m := by
  unfold muF
  exact (h.map _).sum_nat
theorem muF_erase {l : List (List Int)} {k : Nat} (h : k < l.length) : muF (l.eraseIdx k) < muF l := by
  have hp := cons_erase_perm h
  have := muF_perm hp
  simp [muF] at this ⊢
  omega
theorem insR_mu (x : List Int) : ∀ l : List (List Int), muF (insR x l) ≤ x.length + 1 + muF l
  | [] => by simp [insR, muF]
  | y :: r => by
    have := insR_mu x r
    rw [insR]
    split
    · simp [muF] at this ⊢; omega
    · split
      · simp [muF]
      · simp [muF]
theorem normF_mu (l : List (List Int)) : muF (normF l) ≤ muF l := by
  have : ∀ (l o : List (List Int)), muF (l.foldl (fun o x => insR (sortF x) o) o) ≤ muF l + muF o := by
    intro l
    induction l with
    | nil => intro o; simp [muF]
    | cons x t ih =>
      intro o
      have h1 := ih (insR (sortF x) o)
      have h2 := insR_mu (sortF x) o
      rw [sortF_len] at h2
      have h3 : muF (x :: t) = x.length + 1 + muF t := by simp [muF]
      simp only [List.foldl_cons]
      omega
  have := this l []
  simpa [normF, muF] using this
theorem muF_set {l : List (List Int)} {k : Nat} {b : List Int} (hb : l[k]? = some b) (y : List Int) : muF (l.set k y) + b.length = muF l + y.length := by
  obtain ⟨hk, he⟩ := List.getElem?_eq_some_iff.1 hb
  have hp := cons_erase_perm hk
  have hk2 : k < (l.set k y).length := by simpa using hk
  have hp2 := cons_erase_perm hk2
  rw [List.eraseIdx_set_eq, List.getElem_set_self] at hp2
  have m1 := muF_perm hp
  have m2 := muF_perm hp2
  rw [he] at m1
  simp [muF] at m1 m2 ⊢
  omega
theorem cutF_eq {l : List (List Int)} {k : Nat} {b : List Int} (hb : l[k]? = some b) (x : Int) : cutF l k x = b.filter (fun y => y != x) := by
  unfold cutF
  rw [List.getD_eq_getElem?_getD, hb]
  rfl
theorem filter_lt {b : List Int} {x : Int} (h : x ∈ b) : (b.filter (fun y => y != x)).length < b.length := by
  have h1 := List.length_filter_lt_length_iff_exists (l := b) (p := fun y => y != x)
  exact h1.2 ⟨x, h, by simp⟩
theorem mu_snd {l : List (List Int)} (h : (sndF l).2 ≠ 0) : muF (normF (l.set (sndF l).1 (cutF l (sndF l).1 (sndF l).2))) < muF l := by
  obtain ⟨a, _, b, x, h1, h2, _, h3, _⟩ := sndF_spec h
  have e1 := normF_mu (l.set (sndF l).1 (cutF l (sndF l).1 (sndF l).2))
  have e2 := muF_set h1 (cutF l (sndF l).1 (sndF l).2)
  have e3 := filter_lt h3
  rw [cutF_eq h1, h2] at e1 e2
  rw [cutF_eq h1, h2]
  omega
/-- The reference drops the clause and puts the shorter one behind all. -/
theorem norm_swap {l : List (List Int)} {k : Nat} (hk : k < l.length) (y : List Int) : normF (l.eraseIdx k ++ [y]) = normF (l.set k y) := by
  have hk2 : k < (l.set k y).length := by simpa using hk
  have hp2 := cons_erase_perm hk2
  rw [List.eraseIdx_set_eq, List.getElem_set_self] at hp2
  refine sortedR_eq (normF_sorted _) (normF_sorted _) fun z => ?_
  rw [normF_mem, normF_mem]
  constructor
  · rintro ⟨u, hu, rfl⟩
    exact ⟨u, hp2.mem_iff.1 (by simp at hu ⊢; rcases hu with h | h <;> simp [h]), rfl⟩
  · rintro ⟨u, hu, rfl⟩
    have := hp2.mem_iff.2 hu
    exact ⟨u, by simp at this ⊢; rcases this with h | h <;> simp [h], rfl⟩
end Go.Proofs.YtlfgcblijfflfaaGreat

/- Clauses without what others say hold where all did; done again they are as they were. Plainly. -/
namespace Go.Proofs.YtlfgcblijfflfaaGreat

theorem set_natAbs {a : List Int} {q : Nat} {x : Int} (h : a[q]? = some x) : (a.set q (-x)).map Int.natAbs = a.map Int.natAbs := by
  rw [List.map_set, Int.natAbs_neg]
  apply List.ext_getElem?
  intro k
  by_cases hk : q = k
  · subst hk
    have hl : q < (a.map Int.natAbs).length := by simpa using (List.getElem?_eq_some_iff.1 h).1
    rw [List.getElem?_set_self hl, List.getElem?_map, h]
    rfl
  · rw [List.getElem?_set_ne hk]
theorem set_nodup {vars : Int} {a : List Int} {q : Nat} {x : Int} (ha : Lits vars a) (h : a[q]? = some x) : (a.set q (-x)).Nodup := by
  have h1 : ((a.set q (-x)).map Int.natAbs).Pairwise (· ≠ ·) := by
    rw [set_natAbs h, List.pairwise_map]
    exact ha.2
  rw [List.pairwise_map] at h1
  exact h1.imp fun hne e => hne (by rw [e])
/-- Where the program does not look, there is nothing. -/
theorem strP_zero {vars : Int} {a b : List Int} (ha : Lits vars a) (h : a = b ∨ b.length < a.length) : strP a b a 0 = 0 := by
  rcases strP_spec a b a 0 with h0 | ⟨q, x, h1, h2, h3⟩
  · exact h0
  · exfalso
    rw [Nat.zero_add] at h3
    rcases h with rfl | h
    · have hx := List.mem_of_getElem? h1
      have hl : q < a.length := (List.getElem?_eq_some_iff.1 h1).1
      have hn := overF_iff.1 h3 (-x) (List.mem_of_getElem? (List.getElem?_set_self hl))
      have := ha.only hx hn (by omega)
      have h0 := (ha.1 x hx).1
      omega
    · have := length_le_of_sub _ b (set_nodup ha h1) (overF_iff.1 h3)
      simp at this
      omega
theorem over_set {vars : Int} {a b : List Int} {q : Nat} {x : Int} (ha : Lits vars a) (h : a[q]? = some x) : (decide ((a.set q (-x)).length ≤ b.length) && overF (a.set q (-x)) b) = overF (a.set q (-x)) b := overF_len (set_nodup ha h)

/-- Clauses in order that may be. -/
def Tidy (vars : Int) (l : List (List Int)) : Prop := normF l = l ∧ ∀ x ∈ l, x.length ≤ 24 ∧ Lits vars x
theorem normF_id {l : List (List Int)} : normF l = l ↔ SortedR l ∧ ∀ x ∈ l, sortF x = x := by
  constructor
  · intro h
    refine ⟨by rw [← h]; exact normF_sorted _, fun x hx => ?_⟩
    rw [← h] at hx
    obtain ⟨y, _, rfl⟩ := normF_mem.1 hx
    exact sortF_idem y
  · rintro ⟨h1, h2⟩
    refine sortedR_eq (normF_sorted _) h1 fun z => ?_
    rw [normF_mem]
    constructor
    · rintro ⟨x, hx, rfl⟩; rw [h2 x hx]; exact hx
    · intro hz; exact ⟨z, hz, (h2 z hz).symm⟩
theorem Tidy.erase {vars : Int} {l : List (List Int)} (h : Tidy vars l) (k : Nat) : Tidy vars (l.eraseIdx k) := by
  obtain ⟨h1, h2⟩ := normF_id.1 h.1
  have hs := List.eraseIdx_sublist l k
  exact ⟨normF_id.2 ⟨h1.sublist hs, fun x hx => h2 x (hs.subset hx)⟩, fun x hx => h.2 x (hs.subset hx)⟩
theorem Lits.filter {vars : Int} {b : List Int} (h : Lits vars b) (p : Int → Bool) : Lits vars (b.filter p) :=
  ⟨fun x hx => h.1 x (List.mem_filter.1 hx).1, h.2.sublist List.filter_sublist⟩
theorem Tidy.cut {vars : Int} {l : List (List Int)} (h : Tidy vars l) (h0 : (sndF l).2 ≠ 0) : Tidy vars (normF (l.set (sndF l).1 (cutF l (sndF l).1 (sndF l).2))) := by
  obtain ⟨a, _, b, x, h1, h2, _⟩ := sndF_spec h0
  refine ⟨normF_idem _, fun z hz => ?_⟩
  obtain ⟨y, hy, rfl⟩ := normF_mem.1 hz
  rw [sortF_len]
  have hb := h.2 b (List.mem_of_getElem? h1)
  have key : y.length ≤ 24 ∧ Lits vars y := by
    rcases List.mem_or_eq_of_mem_set hy with hy | rfl
    · exact h.2 y hy
    · rw [cutF_eq h1]
      exact ⟨Nat.le_trans (List.length_filter_le _ _) hb.1, hb.2.filter _⟩
  exact ⟨key.1, key.2.sortF⟩
theorem subF_tidy {vars : Int} : ∀ (f : Nat) (l : List (List Int)), Tidy vars l → Tidy vars (subF f l)
  | 0, _, h => h
  | f + 1, l, h => by
    rw [subF]
    split
    · exact subF_tidy f _ (h.erase _)
    · split
      · exact h
      · rename_i h0; exact subF_tidy f _ (h.cut h0)
theorem subF_len : ∀ (f : Nat) (l : List (List Int)), (subF f l).length ≤ l.length
  | 0, l => Nat.le_refl _
  | f + 1, l => by
    rw [subF]
    split
    · have := subF_len f (l.eraseIdx (fstF l).toNat)
      have h2 := List.length_eraseIdx_le l (fstF l).toNat
      omega
    · split
      · exact Nat.le_refl _
      · have := subF_len f (normF (l.set (sndF l).1 (cutF l (sndF l).1 (sndF l).2)))
        have h2 := normF_len (l.set (sndF l).1 (cutF l (sndF l).1 (sndF l).2))
        simp at h2
        omega
theorem subF_done : ∀ (f : Nat) (l : List (List Int)), muF l < f → ¬ 0 ≤ fstF (subF f l) ∧ (sndF (subF f l)).2 = 0
  | 0, _, h => by omega
  | f + 1, l, h => by
    rw [subF]
    split
    · rename_i h1
      have := muF_erase (fstF_lt h1)
      exact subF_done f _ (by omega)
    · rename_i h1
      split
      · rename_i h2; exact ⟨h1, h2⟩
      · rename_i h2
        have := mu_snd h2
        exact subF_done f _ (by omega)
theorem allB_mem {l : List (List Int)} {a : List Bool} : allB l a = true ↔ ∀ x ∈ l, satB a x = true := by unfold allB; rw [List.all_eq_true]
theorem allB_erase {l : List (List Int)} {a : List Bool} (h : 0 ≤ fstF l) : allB (l.eraseIdx (fstF l).toNat) a = allB l a := by
  rcases fstF_spec l with h' | ⟨i, p, j, b, h1, h2, h3, h4, h5⟩
  · omega
  · rw [h3]
    simp only [Int.toNat_natCast]
    rw [Bool.eq_iff_iff, allB_mem, allB_mem]
    have hj := (List.getElem?_eq_some_iff.1 h2).1
    constructor
    · intro hs x hx
      have hp : p ∈ l.eraseIdx j := by
        rw [List.mem_eraseIdx_iff_getElem?]
        exact ⟨i, h4, h1⟩
      have sp := hs p hp
      rcases List.mem_cons.1 ((cons_erase_perm hj).mem_iff.2 hx) with rfl | hx
      · obtain ⟨y, hy, ly⟩ := List.any_eq_true.1 sp
        have hb : l[j] = b := (List.getElem?_eq_some_iff.1 h2).2
        rw [hb]
        exact List.any_eq_true.2 ⟨y, overF_iff.1 h5 y hy, ly⟩
      · exact hs x hx
    · intro hs x hx
      exact hs x ((List.eraseIdx_sublist l j).subset hx)
theorem allB_cut {vars : Int} {l : List (List Int)} {a : List Bool} (h : Tidy vars l) (h0 : (sndF l).2 ≠ 0) : allB (normF (l.set (sndF l).1 (cutF l (sndF l).1 (sndF l).2))) a = allB l a := by
  obtain ⟨p, hp, b, x, h1, h2, h3, h4, h5⟩ := sndF_spec h0
  rw [allB_norm, cutF_eq h1, h2]
  generalize hk : (sndF l).1 = k at *
  have hkl := (List.getElem?_eq_some_iff.1 h1).1
  have hbm := List.mem_of_getElem? h1
  have lp := (h.2 p hp).2
  have lb := (h.2 b hbm).2
  have hx0 := (lp.1 x h3).1
  have hpb : p ≠ b := fun e => by
    subst e
    have := lp.only h3 h4 (by omega)
    omega
  have hk2 : k < (l.set k (b.filter (fun y => y != -x))).length := by simpa using hkl
  have hp2 := cons_erase_perm hk2
  rw [List.eraseIdx_set_eq, List.getElem_set_self] at hp2
  have hp1 := cons_erase_perm hkl
  have hbe : l[k] = b := (List.getElem?_eq_some_iff.1 h1).2
  rw [hbe] at hp1
  have hpe : p ∈ l.eraseIdx k := by
    rcases List.mem_cons.1 (hp1.mem_iff.2 hp) with e | e
    · exact absurd e hpb
    · exact e
  rw [Bool.eq_iff_iff, allB_mem, allB_mem]
  constructor
  · intro hs z hz
    rcases List.mem_cons.1 (hp1.mem_iff.2 hz) with rfl | hz
    · obtain ⟨y, hy, ly⟩ := List.any_eq_true.1 (hs _ (hp2.mem_iff.1 (List.mem_cons_self)))
      exact List.any_eq_true.2 ⟨y, (List.mem_filter.1 hy).1, ly⟩
    · exact hs z (hp2.mem_iff.1 (by simp [hz]))
  · intro hs z hz
    rcases List.mem_cons.1 (hp2.mem_iff.2 hz) with rfl | hz
    · obtain ⟨y, hy, ly⟩ := List.any_eq_true.1 (hs b hbm)
      by_cases hyx : y = -x
      · subst hyx
        rw [litB_not hx0] at ly
        obtain ⟨u, hu, lu⟩ := List.any_eq_true.1 (hs p hp)
        have hux : u ≠ x := fun e => by subst e; rw [lu] at ly; simp at ly
        have hunx : u ≠ -x := fun e => by
          subst e
          have := lp.only h3 hu (by omega)
          omega
        exact List.any_eq_true.2 ⟨u, List.mem_filter.2 ⟨h5 u hu hux, by simpa using hunx⟩, lu⟩
      · exact List.any_eq_true.2 ⟨y, List.mem_filter.2 ⟨hy, by simpa using hyx⟩, ly⟩
    · exact hs z ((List.eraseIdx_sublist l k).subset hz)
theorem subF_all {vars : Int} {a : List Bool} : ∀ (f : Nat) (l : List (List Int)), Tidy vars l → allB (subF f l) a = allB l a
  | 0, _, _ => rfl
  | f + 1, l, h => by
    rw [subF]
    split
    · rename_i h1
      rw [subF_all f _ (h.erase _), allB_erase h1]
    · split
      · rfl
      · rename_i h0
        rw [subF_all f _ (h.cut h0), allB_cut h h0]
/-- All of it. -/
def subbed (xss : List (List Int)) : List (List Int) := subF (muF (normF xss) + 1) (normF xss)
theorem norm_tidy {vars : Int} {xss : List (List Int)} (h : ∀ x ∈ xss, x.length ≤ 24 ∧ Lits vars x) : Tidy vars (normF xss) :=
  ⟨normF_idem _, fun z hz => by
    obtain ⟨y, hy, rfl⟩ := normF_mem.1 hz
    rw [sortF_len]
    exact ⟨(h y hy).1, (h y hy).2.sortF⟩⟩
theorem subbed_again {vars : Int} {xss : List (List Int)} (h : ∀ x ∈ xss, x.length ≤ 24 ∧ Lits vars x) : subbed (subbed xss) = subbed xss := by
  have ht := subF_tidy (muF (normF xss) + 1) _ (norm_tidy h)
  have hd := subF_done (muF (normF xss) + 1) (normF xss) (by omega)
  have e1 : normF (subbed xss) = subbed xss := ht.1
  have e2 : subbed (subbed xss) = subF (muF (normF (subbed xss)) + 1) (normF (subbed xss)) := rfl
  rw [e2, e1, subF]
  unfold subbed
  rw [if_neg hd.1, if_pos hd.2]
theorem subbed_all {vars : Int} {xss : List (List Int)} {a : List Bool} (h : ∀ x ∈ xss, x.length ≤ 24 ∧ Lits vars x) : allB (subbed xss) a = allB xss a := by
  unfold subbed
  rw [subF_all _ _ (norm_tidy h), allB_norm]
theorem subbed_len (xss : List (List Int)) : (subbed xss).length ≤ xss.length := Nat.le_trans (subF_len _ _) (normF_len xss)
end Go.Proofs.YtlfgcblijfflfaaGreat

/- Contracts of sub.over, sub.Over; of the reference's Over. -/
namespace Go.Proofs.YtlfgcblijfflfaaGreat
open Go.RowKit

theorem over_lit (x : Int) (B : Nat) (W : World) (A : Option Addr) (n c : Nat) (ys : List Int) (hc : W.cell? ⟨B, 0, none⟩ = some (.slice A n c)) (h : Ints W A n c ys) :
    Calls Tryz.prog 86 #[.int .i64 x, .pointer (some ⟨B, 0, none⟩)] W (RetQ (.bool (!hasB ys x)) W) := by
  obtain ⟨r, hr⟩ : ∃ r, Hid (hasB ys x = r) := ⟨_, rfl⟩
  rw [hr.out]
  go_enter Tryz.func86, Tryz.ntmps86
  go_wp2_with fail
  refine (contains_ints _ _ _ _ _ _ h _ hr).mono ?_
  rintro e w1 ⟨rfl, m, rfl⟩
  go_wp2_with fail
  go_ret
  exact RetQ.of _ rfl
theorem enters_over : Enters Tryz.prog 86 := enters_of Tryz.func86 (by kernel_rfl) rfl
theorem any_not_over (a b : List Int) : a.any (fun x => !hasB b x) = !overF a b := by
  unfold overF
  rw [List.any_eq_not_all_not]
  simp

set_option maxHeartbeats 400000 in
theorem sub_over (A B : Option Addr) (n c m d : Nat) (xs ys : List Int) (w : World) (h : Ints w A n c xs) (h' : Ints w B m d ys) (r : Bool) (hr : Hid ((decide (xs.length ≤ ys.length) && overF xs ys) = r)) :
    Calls Tryz.prog 56 #[.slice A n c, .slice B m d] w (RetV (.bool r) w) := by
  have hbd := h.bd
  have hbd' := h'.bd
  have hl := h.len
  have hl' := h'.len
  by_cases hnm : n ≤ m
  · have hr' : Hid (xs.any (fun x => !hasB ys x) = !r) := by
      rw [any_not_over, ← hr.out, hl, hl']; simp [hnm, Hid]
    clear hl hl'
    have hk := h.keep (below_new w (.cells #[.slice B m d] 22))
    have hk' := h'.keep (below_new w (.cells #[.slice B m d] 22))
    have HP : Hid (Pred 86 #[.pointer (some ⟨w.heap.size, 0, none⟩)] xs (fun x => !hasB ys x) (w.alloc (.cells #[.slice B m d] 22))) := by
      intro W x hW hx
      exact (over_lit x w.heap.size W B m d ys (keepBox hW (by simp [go_sem])) (hk'.keep hW)).mono fun _ _ hh => hh.v
    go_enter Tryz.func56, Tryz.ntmps56
    go_wp2_with fail
    refine (containsFunc_ints _ _ _ _ _ hk _ _ enters_over _ HP.out _ hr').mono ?_
    rintro e w1 ⟨rfl, hb1⟩
    have HB := Lib.hid (below_box hb1).1
    clear hb1
    cases r
    all_goals
      go_wp2_with fail
      go_ret
      exact ⟨rfl, HB.out⟩
  · have : false = r := by rw [← hr.out, hl, hl']; simp [hnm]
    subst this
    have d1 : ¬ (n : Int) ≤ (m : Int) := by omega
    clear hl hl'
    go_enter Tryz.func56, Tryz.ntmps56
    go_wp2_with fail
    go_ret
    exact ⟨rfl, below_new _ _⟩

end Go.Proofs.YtlfgcblijfflfaaGreat

/- Contracts of sub.subsumed, sub.strengthened; of the reference's First, Second. -/
namespace Go.Proofs.YtlfgcblijfflfaaGreat
open Go.RowKit
set_option linter.unusedSimpArgs false

set_option maxHeartbeats 2000000 in
theorem subsumed_any (A : Option Addr) (n c : Nat) (l : List (List Int)) (vars : Int) (w : World) (h : Grid w A n c l) (hl : ∀ x ∈ l, Lits vars x) (r : Int) (hr : Hid (fstF l = r)) :
    Calls Tryz.prog 22 #[.slice A n c] w (RetV (.int .i64 r) w) := by
  have hbd := h.bd
  have hlen := Lib.hid h.len
  have G := Lib.hid h
  have HLT := Lib.hid hl
  clear h hl
  go_enter Tryz.func22, Tryz.ntmps22
  go_wp2_with fail
  go_loopw [9] (fun s wr => ∃ i : Nat, i ≤ n ∧ s = .int .i64 i ∧ Hid (subFst l (l.drop i) i = r) ∧ Hid (Below w.heap.size w wr)) (fun s _ => n - (intOf s).toNat)
  case atStart => exact ⟨0, Nat.zero_le _, rfl, hr, Below.refl _ _⟩
  case round =>
    obtain ⟨i, hi, rfl, hgo, hbl⟩ := hrel
    obtain ⟨wo, hwo⟩ : ∃ wo : World, wo = wr := ⟨_, rfl⟩
    subst hwo
    by_cases hlt : i < n
    · obtain ⟨b0, off, X, nx, cx, a, hLe, hb, hcell, hx, hak⟩ := (G.out.keep hbl.out).round hlt
      subst hLe
      have HX := Lib.hid hx
      have ha := Lib.hid (HLT.out a (List.mem_of_getElem? hak.out)).nodup
      obtain ⟨q, hq⟩ : ∃ q, Hid (subIn a i l 0 = q) := ⟨_, rfl⟩
      have hgo2 : Hid ((if 0 ≤ q then q else subFst l (l.drop (i + 1)) (i + 1)) = r) := by have := hgo.out; rw [drop_cons_of hak.out, subFst, hq.out] at this; exact this
      have y1 : (0 : Int) ≤ (i : Int) := by omega
      have y2 : (i : Int) < (n : Int) := by omega
      clear hgo hx
      go_wp2_with fail
      go_loopw [16] (fun s wr => ∃ k : Nat, k ≤ n ∧ s = .int .i64 k ∧ Hid (subIn a i (l.drop k) k = q) ∧ Hid (Below wo.heap.size wo wr)) (fun s _ => n - (intOf s).toNat)
      case atStart => exact ⟨0, Nat.zero_le _, rfl, hq, Below.refl _ _⟩
      case round =>
        obtain ⟨k, hk, rfl, hin, hbk⟩ := hrel
        by_cases hkn : k < n
        · obtain ⟨b0', off', Y, ny, cy, b, hAe, hb', hcell', hy, hbk'⟩ := ((G.out.keep hbl.out).keep hbk.out).round hkn
          cases hAe
          have HY := Lib.hid hy
          obtain ⟨t, ht⟩ : ∃ t, Hid (overF a b = t) := ⟨_, rfl⟩
          have ht2 : Hid ((decide (a.length ≤ b.length) && overF a b) = t) := by rw [overF_len ha.out]; exact ht
          have hin2 : Hid ((if (i != k) && t then (k : Int) else subIn a i (l.drop (k + 1)) (k + 1)) = q) := by have := hin.out; rw [drop_cons_of hbk'.out, subIn, ht.out] at this; exact this
          have y3 : (0 : Int) ≤ (k : Int) := by omega
          have y4 : (k : Int) < (n : Int) := by omega
          clear hin hy
          by_cases hik : i = k
          · subst hik
            have dk : ((i : Int) != (i : Int)) = false := by simp
            go_wp2_with fail
            go_roundw
            case rel => exact ⟨i + 1, by omega, by go_num, by have := hin2.out; simpa [Hid] using this, hbk⟩
            case measure => simp [intOf]; omega
          · have dk : ((i : Int) != (k : Int)) = true := by simp; omega
            have dk2 : (i != k) = true := by simpa using hik
            go_wp2_with fail
            refine (sub_over _ _ _ _ _ _ a b _ ((HX.out.keep hbk.out)) HY.out t ht2).mono ?_
            rintro e w4 ⟨rfl, hb4⟩
            have BK4 := Lib.hid (below_next hbk.out hb4)
            clear hb4
            cases t
            · go_wp2_with fail
              go_roundw
              case rel => exact ⟨k + 1, by omega, by go_num, by have := hin2.out; simpa [Hid] using this, BK4⟩
              case measure => simp [intOf]; omega
            · have hqk : (k : Int) = q := by have := hin2.out; rw [dk2] at this; simpa using this
              have hrk : (k : Int) = r := by have := hgo2.out; rw [← hqk, if_pos (by omega)] at this; exact this
              subst hqk
              subst hrk
              go_wp2_with fail
              go_ret
              exact ⟨rfl, below_next hbl.out BK4.out⟩
        · have hqm : -1 = q := by have := hin.out; rw [List.drop_of_length_le (by rw [hlen.out]; omega), subIn] at this; exact this
          have hgo3 : Hid (subFst l (l.drop (i + 1)) (i + 1) = r) := by have := hgo2.out; rw [← hqm, if_neg (by omega)] at this; exact this
          go_wp2_with fail
          go_roundw
          case rel => exact ⟨i + 1, by omega, by go_num, hgo3, below_next hbl.out hbk.out⟩
          case measure => simp [intOf]; omega
    · have : -1 = r := by have := hgo.out; rw [List.drop_of_length_le (by rw [hlen.out]; omega), subFst] at this; exact this
      subst this
      go_wp2_with fail
      go_ret
      exact ⟨rfl, hbl.out⟩

end Go.Proofs.YtlfgcblijfflfaaGreat

/- Contracts of sub.strengthened; of the reference's Second. -/
namespace Go.Proofs.YtlfgcblijfflfaaGreat
open Go.RowKit
set_option linter.unusedSimpArgs false

theorem strIn_cons {a b : List Int} {l : List (List Int)} {k : Nat} (h : l[k]? = some b) : strIn a (l.drop k) k = if strP a b a 0 ≠ 0 then (k, strP a b a 0) else strIn a (l.drop (k + 1)) (k + 1) := by rw [drop_cons_of h, strIn]
theorem strFst_cons {a : List Int} {l : List (List Int)} {i : Nat} (h : l[i]? = some a) : strFst l (l.drop i) = if (strIn a l 0).2 ≠ 0 then strIn a l 0 else strFst l (l.drop (i + 1)) := by rw [drop_cons_of h, strFst]
theorem strP_cons {a b : List Int} {p : Nat} {x : Int} (h : a[p]? = some x) : strP a b (a.drop p) p = if overF (a.set p (-x)) b then -x else strP a b (a.drop (p + 1)) (p + 1) := by rw [drop_cons_of h, strP]

set_option maxHeartbeats 4000000 in
set_option maxRecDepth 100000 in
theorem strengthened_any (A : Option Addr) (n c : Nat) (l : List (List Int)) (vars : Int) (w : World) (h : Grid w A n c l) (hl : ∀ x ∈ l, Lits vars x) (v0 : 0 ≤ vars) (v1 : vars ≤ 1000) (hn : n ≤ 1000000) (r1 : Nat) (r2 : Int) (hr : Hid (sndF l = (r1, r2))) :
    Calls Tryz.prog 24 #[.slice A n c] w (RetV (.tuple #[.int .i64 r1, .int .i64 r2]) w) := by
  have hbd := h.bd
  have hlen := Lib.hid h.len
  have G := Lib.hid h
  have HLT := Lib.hid hl
  clear h hl
  go_enter Tryz.func24, Tryz.ntmps24
  go_wp2_with fail
  go_loopw [13] (fun s wr => ∃ i : Nat, i ≤ n ∧ s = .int .i64 i ∧ Hid (strFst l (l.drop i) = (r1, r2)) ∧ Hid (Below w.heap.size w wr)) (fun s _ => n - (intOf s).toNat)
  case atStart => exact ⟨0, Nat.zero_le _, rfl, hr, Below.refl _ _⟩
  case round =>
    obtain ⟨i, hi, rfl, hgo, hbl⟩ := hrel
    obtain ⟨wo, hwo⟩ : ∃ wo : World, wo = wr := ⟨_, rfl⟩
    subst hwo
    by_cases hlt : i < n
    · obtain ⟨b0, off, X, nx, cx, a, hLe, hb, hcell, hx, hak⟩ := (G.out.keep hbl.out).round hlt
      subst hLe
      have HX := Lib.hid hx
      have ha := Lib.hid (HLT.out a (List.mem_of_getElem? hak.out))
      have hnx : nx ≤ 1000 := by have h1 := ha.out.len_le v0; rw [hx.len] at h1; omega
      have hxl := Lib.hid hx.len
      have hbdx := hx.bd
      obtain ⟨q, hq⟩ : ∃ q, Hid (strIn a l 0 = q) := ⟨_, rfl⟩
      have hgo2 : Hid ((if q.2 ≠ 0 then q else strFst l (l.drop (i + 1))) = (r1, r2)) := by have := hgo.out; rw [strFst_cons hak.out, hq.out] at this; exact this
      have y1 : (0 : Int) ≤ (i : Int) := by omega
      have y2 : (i : Int) < (n : Int) := by omega
      clear hgo hx
      go_wp2_with fail
      go_loopw [20] (fun s wr => ∃ k : Nat, k ≤ n ∧ s = .int .i64 k ∧ Hid (strIn a (l.drop k) k = q) ∧ Hid (Below wo.heap.size wo wr)) (fun s _ => n - (intOf s).toNat)
      case atStart => exact ⟨0, Nat.zero_le _, rfl, hq, Below.refl _ _⟩
      case round =>
        obtain ⟨k, hk, rfl, hin, hbk⟩ := hrel
        obtain ⟨wv, hwv⟩ : ∃ wv : World, wv = wr := ⟨_, rfl⟩
        subst hwv
        by_cases hkn : k < n
        · obtain ⟨b0', off', Y, ny, cy, b, hAe, hb', hcell', hy, hbk'⟩ := ((G.out.keep hbl.out).keep hbk.out).round hkn
          cases hAe
          have HY := Lib.hid hy
          have hyl := Lib.hid hy.len
          have hbdy := hy.bd
          obtain ⟨s, hs⟩ : ∃ s, Hid (strP a b a 0 = s) := ⟨_, rfl⟩
          have hin2 : Hid ((if s ≠ 0 then (k, s) else strIn a (l.drop (k + 1)) (k + 1)) = q) := by have := hin.out; rw [strIn_cons hbk'.out, hs.out] at this; exact this
          have y3 : (0 : Int) ≤ (k : Int) := by omega
          have y4 : (k : Int) < (n : Int) := by omega
          clear hin hy
          by_cases hik : i = k
          · subst hik
            have hab : a = b := by have h1 := hak.out; rw [hbk'.out] at h1; cases h1; rfl
            have hs0 : s = 0 := by rw [← hs.out]; exact strP_zero ha.out (.inl hab)
            clear hab
            have hin3 : Hid (strIn a (l.drop (i + 1)) (i + 1) = q) := by have := hin2.out; rw [hs0] at this; simpa [Hid] using this
            clear hs0
            have dk : ((i : Int) == (i : Int)) = true := by simp
            go_wp2_with fail
            go_roundw
            case rel => exact ⟨i + 1, by omega, by go_num, hin3, hbk⟩
            case measure => simp [intOf]; omega
          · have dk : ((i : Int) == (k : Int)) = false := by simp; omega
            have dk2 : (i == k) = false := by simpa using hik
            by_cases hln : ny < nx
            · have hs0 : s = 0 := by rw [← hs.out]; exact strP_zero ha.out (.inr (by rw [hxl.out, hyl.out]; exact hln))
              have hin3 : Hid (strIn a (l.drop (k + 1)) (k + 1) = q) := by have := hin2.out; rw [hs0] at this; simpa [Hid] using this
              clear hs0
              go_wp2_with fail
              go_roundw
              case rel => exact ⟨k + 1, by omega, by go_num, hin3, hbk⟩
              case measure => simp [intOf]; omega
            · go_wp2_with fail
              go_loopw [37] (fun u wr => ∃ p : Nat, p ≤ nx ∧ u = .int .i64 p ∧ Hid (strP a b (a.drop p) p = s) ∧ Hid (Below wv.heap.size wv wr)) (fun u _ => nx - (intOf u).toNat)
              case atStart => exact ⟨0, Nat.zero_le _, rfl, hs, Below.refl _ _⟩
              case round =>
                obtain ⟨p, hp, rfl, hst, hbp⟩ := hrel
                have HXW := Lib.hid ((HX.out.keep hbk.out).keep hbp.out)
                have HYW := Lib.hid (HY.out.keep hbp.out)
                by_cases hpn : p < nx
                · obtain ⟨b3, off3, x, hXe, hb3, hcell3, x1, x2, hxp⟩ := HXW.out.round hpn
                  subst hXe
                  have hxb := ha.out.1 x (List.mem_of_getElem? hxp.out)
                  have y5 : (0 : Int) ≤ (p : Int) := by omega
                  have y6 : (p : Int) < (nx : Int) := by omega
                  obtain ⟨t, ht⟩ : ∃ t, Hid (overF (a.set p (-x)) b = t) := ⟨_, rfl⟩
                  have ht2 : Hid ((decide ((a.set p (-x)).length ≤ b.length) && overF (a.set p (-x)) b) = t) := by rw [over_set ha.out hxp.out]; exact ht
                  have hst2 : Hid ((if t then -x else strP a b (a.drop (p + 1)) (p + 1)) = s) := by have := hst.out; rw [strP_cons hxp.out, ht.out] at this; exact this
                  clear hst
                  go_wp2_with fail
                  refine (clone_ints _ _ _ a _ HXW.out (by omega)).mono ?_
                  rintro e w5 ⟨A5, n5, c5, rfl, hown5, hb5⟩
                  have hn5 : n5 = nx := by have h1 := hown5.len; rw [List.length_map, hxl.out] at h1; exact h1.symm
                  subst hn5
                  obtain ⟨g5, u5, hA5, hg5, hgl5, hc5, hf5, _⟩ := hown5.at_ hpn
                  subst hA5
                  have O5 := Lib.hid (hown5.set_ p (.int .i64 (-x)))
                  have GR5 := hown5.grown_set p (.int .i64 (-x))
                  have BP5 : Hid (Below wv.heap.size wv (w5.setCell ⟨g5, p, none⟩ (.int .i64 (-x)))) := below_grown (below_next hbp.out hb5) hown5 hbp.out.size GR5
                  have IT : Hid (Ints (w5.setCell ⟨g5, p, none⟩ (.int .i64 (-x))) (some ⟨g5, 0, none⟩) n5 c5 (a.set p (-x))) := by
                    have h1 := O5.out
                    have e1 : (a.map (Value.int .i64)).set p (.int .i64 (-x)) = (a.set p (-x)).map (Value.int .i64) := by rw [List.map_set]
                    rw [e1] at h1
                    exact h1.ints (fun z hz => by
                      rcases List.mem_or_eq_of_mem_set hz with hz | rfl
                      · have := ha.out.1 z hz; unfold I64; omega
                      · unfold I64; omega)
                  have HYT : Hid (Ints (w5.setCell ⟨g5, p, none⟩ (.int .i64 (-x))) Y ny cy b) := HYW.out.keep (below_grown hb5 hown5 (Nat.le_refl _) GR5)
                  have zw : IntKind.i64.wrap (-x) = -x := IntWalk.i64_in _ (by omega)
                  have y7 : (0 : Int) ≤ (p : Int) := by omega
                  clear hown5 hb5 O5 GR5 hcell3
                  go_wp2_with fail
                  refine (sub_over _ _ _ _ _ _ (a.set p (-x)) b _ IT.out HYT.out t ht2).mono ?_
                  rintro e w6 ⟨rfl, hb6⟩
                  have BP6 := Lib.hid (below_next BP5.out hb6)
                  clear hb6
                  cases t
                  · go_wp2_with fail
                    go_roundw
                    case rel => exact ⟨p + 1, by omega, by go_num, by have := hst2.out; simpa [Hid] using this, BP6⟩
                    case measure => simp [intOf]; omega
                  · have hsx : -x = s := by have := hst2.out; simpa using this
                    have hq2 : (k, s) = q := by have := hin2.out; rw [if_pos (by rw [← hsx]; omega)] at this; exact this
                    have hrr : (k, s) = (r1, r2) := by have := hgo2.out; rw [← hq2, if_pos (by rw [← hsx]; simp; omega)] at this; exact this
                    obtain ⟨rfl, rfl⟩ : k = r1 ∧ s = r2 := by simpa using hrr
                    subst hsx
                    clear hq2 hrr
                    go_wp2_with fail
                    go_ret2
                    exact ⟨rfl, below_next hbl.out (below_next hbk.out BP6.out)⟩
                · have hs0 : 0 = s := by have := hst.out; rw [List.drop_of_length_le (by rw [hxl.out]; omega), strP] at this; exact this
                  have hin3 : Hid (strIn a (l.drop (k + 1)) (k + 1) = q) := by have := hin2.out; rw [← hs0] at this; simpa [Hid] using this
                  clear hs0
                  go_wp2_with fail
                  go_roundw
                  case rel => exact ⟨k + 1, by omega, by go_num, hin3, below_next hbk.out hbp.out⟩
                  case measure => simp [intOf]; omega
        · have hqm : (0, 0) = q := by have := hin.out; rw [List.drop_of_length_le (by rw [hlen.out]; omega), strIn] at this; exact this
          have hgo3 : Hid (strFst l (l.drop (i + 1)) = (r1, r2)) := by have := hgo2.out; rw [← hqm, if_neg (by simp)] at this; exact this
          go_wp2_with fail
          go_roundw
          case rel => exact ⟨i + 1, by omega, by go_num, hgo3, below_next hbl.out hbk.out⟩
          case measure => simp [intOf]; omega
    · have hrr : (0, 0) = (r1, r2) := by have := hgo.out; rw [List.drop_of_length_le (by rw [hlen.out]; omega), strFst] at this; exact this
      obtain ⟨rfl, rfl⟩ : 0 = r1 ∧ 0 = r2 := by simpa using hrr
      clear hrr
      go_wp2_with fail
      go_ret2
      exact ⟨rfl, hbl.out⟩
end Go.Proofs.YtlfgcblijfflfaaGreat

/- Contracts of slices.Grow at nil and slices.Concat, at ints. -/
namespace Go.Proofs.YtlfgcblijfflfaaGreat
open Go.RowKit

theorem flatten_take_len {xss : List (List Int)} {k : Nat} {xs : List Int} (h : xss[k]? = some xs) : (xss.take (k + 1)).flatten = (xss.take k).flatten ++ xs := by
  rw [take_snoc_of h]; simp
theorem flatten_take_le (xss : List (List Int)) (k : Nat) : (xss.take k).flatten.length ≤ xss.flatten.length := by
  have : xss.flatten = (xss.take k).flatten ++ (xss.drop k).flatten := by rw [← List.flatten_append, List.take_append_drop]
  rw [this, List.length_append]; omega

end Go.Proofs.YtlfgcblijfflfaaGreat

/- Contracts of res.Resolve, res.one. (Printed by wip/tools/resolve.py.) -/
namespace Go.Proofs.YtlfgcblijfflfaaGreat
set_option linter.unusedSimpArgs false
open Go.RowKit

/-- A row of the call's own, and whether there is one. -/
def RetResB (R : Option (List Int)) (w : World) (e : Ending) (w' : World) : Prop :=
  ∃ L nl cl, e = .returned (.tuple #[.slice L nl cl, .bool R.isSome]) ∧ Own 3 w' w.heap.size L nl cl ((sortF (R.getD [])).map (Value.int .i64)) ∧ Below w.heap.size w w'
theorem sortF_nil : sortF [] = [] := rfl

/-- A row of the call's own, and a code. -/
def RetOne (l : List Int) (code : Int) (w : World) (e : Ending) (w' : World) : Prop :=
  ∃ L nl cl, e = .returned (.tuple #[.slice L nl cl, .int .i64 code]) ∧ Own 3 w' w.heap.size L nl cl (l.map (Value.int .i64)) ∧ Below w.heap.size w w'
end Go.Proofs.YtlfgcblijfflfaaGreat

/- A slice of structs of three ints, read; no program in sight. -/
namespace Go.Proofs.YtlfgcblijfflfaaGreat
open Go.ChangeShapes Go.WideShapes Go.ChangeAt Go.RowKit Go.Deep Go.Joins

/-- The slice '.slice A n c' reads as the triples rs. -/
structure Trips (w : World) (A : Option Addr) (n c : Nat) (rs : List (Int × Int × Int)) : Prop where
  len : rs.length = n
  le : n ≤ c
  cap : c ≤ maxLen
  at_ : 0 < n → ∃ b off, A = some ⟨b, off, none⟩ ∧ b < w.heap.size ∧ ∀ k r, rs[k]? = some r → w.cell? ⟨b, off + k * 3, none⟩ = some (.int .i64 r.1) ∧ w.cell? ⟨b, off + k * 3 + 1, none⟩ = some (.int .i64 r.2.1) ∧ w.cell? ⟨b, off + k * 3 + 2, none⟩ = some (.int .i64 r.2.2)
  wf : ∀ r ∈ rs, I64 r.1 ∧ I64 r.2.1 ∧ I64 r.2.2
theorem Trips.keep {w w' : World} {A : Option Addr} {n c : Nat} {rs : List (Int × Int × Int)} (h : Trips w A n c rs) (hb : Below w.heap.size w w') : Trips w' A n c rs :=
  ⟨h.len, h.le, h.cap, fun hn => by
    obtain ⟨b, off, e, hlt, hc⟩ := h.at_ hn
    refine ⟨b, off, e, Nat.lt_of_lt_of_le hlt hb.size, fun k r hk => ?_⟩
    obtain ⟨h1, h2, h3⟩ := hc k r hk
    exact ⟨keepBox hb h1, keepBox hb h2, keepBox hb h3⟩, h.wf⟩
theorem Trips.bd {w : World} {A : Option Addr} {n c : Nat} {rs : List (Int × Int × Int)} (h : Trips w A n c rs) : n ≤ c ∧ c ≤ 9223372036854775807 := by
  have h1 := h.le
  have h2 := h.cap
  unfold maxLen at h2
  omega
theorem Trips.round {w : World} {A : Option Addr} {n c : Nat} {rs : List (Int × Int × Int)} (h : Trips w A n c rs) {k : Nat} (hk : k < n) :
    ∃ b off x y z, A = some ⟨b, off, none⟩ ∧ b < w.heap.size ∧ w.cell? ⟨b, off + k * 3, none⟩ = some (.int .i64 x) ∧ w.cell? ⟨b, off + k * 3 + 1, none⟩ = some (.int .i64 y) ∧ w.cell? ⟨b, off + k * 3 + 2, none⟩ = some (.int .i64 z) ∧ I64 x ∧ I64 y ∧ I64 z ∧ Hid (rs[k]? = some (x, y, z)) := by
  obtain ⟨b, off, e, hlt, hc⟩ := h.at_ (by omega)
  have hl : k < rs.length := by rw [h.len]; exact hk
  have hr := List.getElem?_eq_getElem hl
  obtain ⟨h1, h2, h3⟩ := hc k _ hr
  obtain ⟨w1, w2, w3⟩ := h.wf _ (List.mem_of_getElem? hr)
  exact ⟨b, off, _, _, _, e, hlt, h1, h2, h3, w1, w2, w3, hr⟩

section
variable {H : Type} {enc : TypeId × Value → H} {P : Program} {w : World} {base : Nat} {held : Bool}
theorem rd_ress {t e ti : TypeId} {f0 f1 f2 : Field} {fuel : Nat} {v : Value} {x : DataW H × List MemPlace} (ht : P.underlying t = some (.slice e)) (he : P.underlying e = some (.struct #[f0, f1, f2])) (hone : oneCellFields P #[f0, f1, f2] = true) (ce : P.cellsOf e = 3)
    (t0 : f0.type = ti) (t1 : f1.type = ti) (t2 : f2.type = ti) (hi : P.underlying ti = some (.int .i64))
    (h : DataW.trod enc P w base (fun _ => true) held fuel t [v] = some x) : ∃ A n c rs, v = .slice A n c ∧ Trips w A n c rs := by
  rcases open_slice ht h with ⟨hcs, _⟩ | ⟨a, len, cap, m, n, D, Pl, hcs, hb, hl, hm, hmm, _, hx⟩
  · simp at hcs
    exact ⟨none, 0, 0, [], hcs, rfl, Nat.le_refl _, Nat.zero_le _, fun h => by omega, by simp⟩
  · simp at hcs hmm
    subst hmm
    obtain ⟨o0, k0⟩ := hone_of hone 0 f0 rfl
    obtain ⟨o1, k1⟩ := hone_of hone 1 f1 rfl
    obtain ⟨o2, k2⟩ := hone_of hone 2 f2 rfl
    have each : ∀ i, i < m → ∃ r : Int × Int × Int, w.cell? (a.add (i * 3)) = some (.int .i64 r.1) ∧ w.cell? (a.add (i * 3 + 1)) = some (.int .i64 r.2.1) ∧ w.cell? (a.add (i * 3 + 2)) = some (.int .i64 r.2.2) ∧ I64 r.1 ∧ I64 r.2.1 ∧ I64 r.2.2 := by
      intro i hi'
      obtain ⟨cs', h1, h2⟩ := hx i hi'
      rw [ce] at h1
      obtain ⟨_, hlen, hcell⟩ := World.cells?_some h1
      obtain ⟨y0, y1, y2, q, _, _, g0, g1, g2⟩ := trod_struct3 he h2
      match cs', hlen with
      | [v0, v1, v2], _ =>
        have e0 := hcell 0 (by omega)
        have e1 := hcell 1 (by omega)
        have e2 := hcell 2 (by omega)
        rw [add_add] at e0 e1 e2
        simp [o0, k0] at g0
        simp [o1, k1] at g1
        simp [o2, k2] at g2
        rw [t0] at g0
        rw [t1] at g1
        rw [t2] at g2
        obtain ⟨z0, E0, _, W0⟩ := DataW.trod_int hi g0
        obtain ⟨z1, E1, _, W1⟩ := DataW.trod_int hi g1
        obtain ⟨z2, E2, _, W2⟩ := DataW.trod_int hi g2
        simp at E0 E1 E2
        subst E0 E1 E2
        exact ⟨(z0, z1, z2), by simpa using e0, by simpa using e1, by simpa using e2, i64_wf W0, i64_wf W1, i64_wf W2⟩
    obtain ⟨Y, hY⟩ := choose_lt each
    refine ⟨some a, len, m, (List.range len).map Y, hcs, by simp, hl, hm, fun hn => ?_, fun r hr => ?_⟩
    · obtain ⟨b, off, spot⟩ := a
      have h0 := (hY 0 (by omega)).1
      have h1 := cell_lt h0
      simp [Addr.add] at h1
      obtain ⟨h1, rfl⟩ := h1
      refine ⟨b, off, rfl, h1, fun k r hk => ?_⟩
      have hk' : k < len := by
        rcases Nat.lt_or_ge k len with hk' | hk'
        · exact hk'
        · rw [List.getElem?_eq_none (by simp; omega)] at hk; cases hk
      simp [hk'] at hk
      subst hk
      obtain ⟨h2, h3, h4, _⟩ := hY k (by omega)
      rw [add_plain] at h2 h3 h4
      exact ⟨h2, by simpa [Nat.add_assoc] using h3, by simpa [Nat.add_assoc] using h4⟩
    · obtain ⟨i, hi', rfl⟩ := List.mem_map.1 hr
      have := List.mem_range.1 hi'
      obtain ⟨_, _, _, h5, h6, h7⟩ := hY i (by omega)
      exact ⟨h5, h6, h7⟩
end
end Go.Proofs.YtlfgcblijfflfaaGreat

/- Contract of res.Check. (Printed by wip/tools/rescheck.py.) -/
namespace Go.Proofs.YtlfgcblijfflfaaGreat
open Go.RowKit
set_option linter.unusedSimpArgs false

/-- The clause of each resolution, or what is wrong (a code, a place). -/
def resC (vars : Int) (xss : List (List Int)) (rs : List R3) : List (List Int) × Int × Int :=
  if 2000 < rs.length then ([], 2, -1) else ((ressF vars rs xss 0).1.drop xss.length, (ressF vars rs xss 0).2)
/-- Clauses, and a fault. -/
def RetRowsF (l : List (List Int)) (r1 r2 : Int) (w : World) (e : Ending) (w' : World) : Prop :=
  ∃ A n c, e = .returned (.tuple #[.slice A n c, .agg #[.int .i64 r1, .int .i64 r2]]) ∧ Grid w' A n c l ∧ Below w.heap.size w w'
theorem grid_nil (w : World) : Grid w none 0 0 [] := ⟨[], ⟨rfl, Nat.le_refl _, Nat.zero_le _, fun h => by omega⟩, rfl, by simp⟩

end Go.Proofs.YtlfgcblijfflfaaGreat

/- Contract of sub.Do. (Printed by wip/tools/subdo.py.) -/
namespace Go.Proofs.YtlfgcblijfflfaaGreat
open Go.RowKit
set_option linter.unusedSimpArgs false

/-- A formula and no fault. -/
def RetCnfF (vars : Int) (xss : List (List Int)) (w : World) (e : Ending) (w' : World) : Prop :=
  ∃ A n c, e = .returned (.tuple #[.agg #[.int .i64 vars, .slice A n c], .agg #[.int .i64 0, .int .i64 0]]) ∧ Grid w' A n c xss ∧ Below w.heap.size w w'
theorem Grid.recap {w : World} {A : Option Addr} {n c d : Nat} {xss : List (List Int)} (h : Grid w A n c xss) (h1 : n ≤ d) (h2 : d ≤ c) : Grid w A n d xss := by
  obtain ⟨vs, g1, g2, g3⟩ := h.ex
  exact ⟨vs, ⟨g1.len, h1, Nat.le_trans h2 g1.cap, g1.at_⟩, g2, g3⟩

set_option maxHeartbeats 1000000 in
theorem subdo_wrong (A : Option Addr) (n c : Nat) (xss : List (List Int)) (vars : Int) (w : World) (h : Grid w A n c xss) (hv : I64 vars) (r1 r2 : Int) (hr : Hid (checkC vars xss = (r1, r2))) (h0 : r1 ≠ 0) :
    Calls Tryz.prog 7 #[.agg #[.int .i64 vars, .slice A n c]] w (RetV (.tuple #[.agg #[.int .i64 0, .slice none 0 0], .agg #[.int .i64 r1, .int .i64 r2]]) w) := by
  have d1 : (r1 != 0) = true := by simpa using h0
  have hbW := below_alloc (below_alloc (below_new w (.cells #[.int .i64 vars, .slice A n c] 25)) (.cells #[.int .i64 0, .slice none 0 0] 25)) (.cells #[.int .i64 0, .int .i64 0] 28)
  have g := h.keep hbW
  have HBW := Lib.hid hbW
  clear hbW
  go_enter Tryz.func7, Tryz.ntmps7
  go_wp2_with fail
  refine (norm_wrong _ _ _ _ _ _ g hv _ _ hr h0).mono ?_
  rintro e w1 ⟨rfl, hb1⟩
  obtain ⟨_, k3, k4, _, l1⟩ := blk3 hb1
  have hbA := below_alloc (below_new w1 (.cells #[.int .i64 0, .slice none 0 0] 25)) (.cells #[.int .i64 r1, .int .i64 r2] 28)
  obtain ⟨w2, hw2⟩ : ∃ w2 : World, w2 = (w1.alloc (.cells #[.int .i64 0, .slice none 0 0] 25)).alloc (.cells #[.int .i64 r1, .int .i64 r2] 28) := ⟨_, rfl⟩
  have s0 : w2.cell? ⟨w1.heap.size + 1, 0, none⟩ = some (.int .i64 r1) := by rw [hw2]; simp [go_sem]
  have s1 : w2.cell? ⟨w1.heap.size + 1, 1, none⟩ = some (.int .i64 r2) := by rw [hw2]; simp [go_sem]
  rw [← hw2] at hbA
  have k3' := k3.keep hbA
  have k4' := k4.keep hbA
  have r0 := k3'.cell 0
  have q1 := k3'.cell 1
  have rf0 := k3'.frozen 0
  have rf1 := k3'.frozen 1
  have t0 := k4'.cell 0
  have t1 := k4'.cell 1
  have tf0 := k4'.frozen 0
  have tf1 := k4'.frozen 1
  simp at r0 q1 t0 t1
  have HB := Lib.hid (below_next (below_next HBW.out hb1) hbA)
  have l2 : w.heap.size + 1 < w2.heap.size := (cell_lt r0).1
  have l3 : w.heap.size + 1 + 1 < w2.heap.size := (cell_lt t0).1
  have l4 : w1.heap.size + 1 < w2.heap.size := (cell_lt s0).1
  have n1 : w1.heap.size + 1 ≠ w.heap.size + 1 := by omega
  have n2 : w1.heap.size + 1 ≠ w.heap.size + 1 + 1 := by omega
  have HW2 := Lib.hid hw2
  clear hb1 k3 k4 g k3' k4' hbA hw2
  go_wp2_with fail
  rw [← HW2.out]
  go_region
  go_wp2_with fail
  refine bodyPost_ret (v := .tuple #[.agg #[.int .i64 0, .slice none 0 0], .agg #[.int .i64 r1, .int .i64 r2]]) (by simp [results, Tryz.results7, go_sem, r0, q1, t0, t1, l2, l3]) rfl ⟨rfl, ?_⟩
  exact (below_put2 (below_put2 HB.out (g := w.heap.size + 1) (by omega) _ _) (g := w.heap.size + 1 + 1) (by omega) _ _).drew

set_option maxHeartbeats 8000000 in
set_option maxRecDepth 100000 in
theorem subdo_own (A : Option Addr) (n c : Nat) (xss : List (List Int)) (vars : Int) (w : World) (h : Grid w A n c xss) (hv : I64 vars) (hr : Hid (checkC vars xss = (0, 0))) :
    Calls Tryz.prog 7 #[.agg #[.int .i64 vars, .slice A n c]] w (RetCnfF vars (subbed xss) w) := by
  have hbd := h.bd
  have hlen := Lib.hid h.len
  obtain ⟨_, v0, v1, hn400, hrows⟩ := checkC_ok (vars := vars) (xss := xss) (by rw [hr.out])
  have HTD : Hid (Tidy vars (normF xss)) := norm_tidy hrows
  obtain ⟨R, hR⟩ : ∃ R, Hid (subF (muF (normF xss) + 1) (normF xss) = R) := ⟨_, rfl⟩
  have hRR : subbed xss = R := hR.out
  rw [hRR]
  have G := Lib.hid h
  clear h hrows hRR
  go_enter Tryz.func7, Tryz.ntmps7
  go_wp2_with fail
  obtain ⟨w0, hw0⟩ : ∃ w0 : World, w0 = ((w.alloc (.cells #[.int .i64 vars, .slice A n c] 25)).alloc (.cells #[.int .i64 0, .slice none 0 0] 25)).alloc (.cells #[.int .i64 0, .int .i64 0] 28) := ⟨_, rfl⟩
  obtain ⟨K1, K2, K3, B0, l0⟩ := blk3 (w := w) (wr := w0) (t := 25) (t' := 25) (t'' := 28) (cs := #[.int .i64 vars, .slice A n c]) (cs' := #[.int .i64 0, .slice none 0 0]) (cs'' := #[.int .i64 0, .int .i64 0]) (by rw [hw0]; exact Below.refl _ _)
  rw [← hw0]
  have HK1 := Lib.hid K1
  have HK2 := Lib.hid K2
  have HK3 := Lib.hid K3
  have HB0 := Lib.hid B0
  clear K1 K2 K3 hw0
  refine (norm_own _ _ _ xss vars w0 (G.out.keep B0) hv hr).mono ?_
  rintro e w1 ⟨A1, n1, c1, rfl, hO1, hb1⟩
  obtain ⟨hl1, hnc1, hc1⟩ := hO1.len'
  have hn1 : n1 ≤ 400 := by have := normF_len xss; have := hlen.out; omega
  have O1 := Lib.hid (hO1.keep (below_alloc (below_new w1 (.cells #[.int .i64 vars, .slice A1 n1 n1] 25)) (.cells #[.int .i64 0, .int .i64 0] 28)))
  have B1 := Lib.hid (below_alloc (below_alloc hb1 (.cells #[.int .i64 vars, .slice A1 n1 n1] 25)) (.cells #[.int .i64 0, .int .i64 0] 28))
  clear hO1 hb1 hl1 B0
  go_wp2_with fail
  go_loopg [6] (muF (normF xss) + 1) (fun f s wr => ∃ (A : Option Addr) (n cv c : Nat) (l : List (List Int)), s = .slice A n cv ∧ n ≤ cv ∧ cv ≤ c ∧ n ≤ 400 ∧ Hid (OwnP 22 3 wr w0.heap.size 0 A n c l) ∧ Hid (Tidy vars l) ∧ Hid (muF l < f) ∧ Hid (subF f l = R) ∧ Hid (Below w0.heap.size w0 wr))
  case atStart => exact ⟨A1, n1, n1, c1, normF xss, rfl, Nat.le_refl _, hnc1, hn1, O1, HTD, Nat.lt_succ_self _, hR, B1⟩
  case round =>
    clear O1 B1 HTD hR
    obtain ⟨L, nl, cv, cl, l, rfl, hcv1, hcv2, hn4, hO, hT, hM, hS, hbl⟩ := hrel
    cases gk with
    | zero => exfalso; have := hM.out; omega
    | succ f =>
    obtain ⟨hll, hnc, hc63⟩ := hO.out.len'
    have HLL := Lib.hid hll
    have hwz := hbl.out.size
    have HLT : Hid (∀ x ∈ l, Lits vars x) := fun x hx => (hT.out.2 x hx).2
    obtain ⟨r, hr1⟩ : ∃ r, Hid (fstF l = r) := ⟨_, rfl⟩
    have hS2 : Hid ((if 0 ≤ r then subF f (l.eraseIdx r.toNat) else if (sndF l).2 = 0 then l else subF f (normF (l.set (sndF l).1 (cutF l (sndF l).1 (sndF l).2)))) = R) := by have := hS.out; rw [subF, hr1.out] at this; exact this
    clear hll hS
    go_wp2_with fail
    refine (subsumed_any _ _ _ l vars wr (hO.out.grid.recap hcv1 hcv2) HLT.out r hr1).mono ?_
    rintro e w2 ⟨rfl, hb2⟩
    have O2 := Lib.hid (hO.out.keep hb2)
    have BL2 := Lib.hid (below_next hbl.out hb2)
    have hwz2 := BL2.out.size
    clear hb2 hO hbl
    by_cases hr0 : 0 ≤ r
    · have hfl := fstF_lt (l := l) (by rw [hr1.out]; exact hr0)
      rw [hr1.out, HLL.out] at hfl
      obtain ⟨k, rfl⟩ : ∃ k : Nat, r = k := ⟨r.toNat, by omega⟩
      simp only [Int.toNat_natCast] at hfl
      obtain ⟨g, _, _, _, _, hLe, hg0, _⟩ := O2.out.round hfl
      subst hLe
      have hS3 : Hid (subF f (l.eraseIdx k) = R) := by have := hS2.out; rw [if_pos hr0] at this; simpa [Hid] using this
      have hM3 : Hid (muF (l.eraseIdx k) < f) := by have h1 := muF_erase (l := l) (k := k) (by rw [HLL.out]; exact hfl); have h2 := hM.out; show _ < _; omega
      go_wp2_with fail
      have ek : (k : Int) + 1 = ((k + 1 : Nat) : Int) := by omega
      rw [ek]
      refine (delete_rows w0.heap.size g nl cl cv k l w2 O2.out (by omega) hcv1 hcv2 hfl).mono ?_
      rintro e w3 ⟨rfl, hO3, hg3⟩
      have O3 := Lib.hid hO3
      have BL3 : Hid (Below w0.heap.size w0 w3) := BL2.out.grown hg3 hwz2 (fun k' hk' => by cases hk'; exact hg0)
      clear hO3 hg3 ek
      go_wp2_with fail
      go_roundg f
      case rel => exact ⟨some ⟨g, 0, none⟩, nl - 1, cv, cl, l.eraseIdx k, rfl, by omega, hcv2, by omega, O3, hT.out.erase k, hM3, hS3, BL3⟩
      case measure => omega
    · have hS3 : Hid ((if (sndF l).2 = 0 then l else subF f (normF (l.set (sndF l).1 (cutF l (sndF l).1 (sndF l).2)))) = R) := by have := hS2.out; rw [if_neg hr0] at this; exact this
      obtain ⟨s1, s2, hsn⟩ : ∃ a b, Hid (sndF l = (a, b)) := ⟨_, _, rfl⟩
      have hS4 : Hid ((if s2 = 0 then l else subF f (normF (l.set s1 (cutF l s1 s2)))) = R) := by have := hS3.out; rw [hsn.out] at this; exact this
      clear hS2 hS3
      go_wp2_with fail
      refine (strengthened_any _ _ _ l vars w2 (O2.out.grid.recap hcv1 hcv2) HLT.out v0 (by omega) (by omega) s1 s2 hsn).mono ?_
      rintro e w3 ⟨rfl, hb3⟩
      have O3 := Lib.hid (O2.out.keep hb3)
      have BL3 := Lib.hid (below_next BL2.out hb3)
      have hwz3 := BL3.out.size
      clear hb3 O2 BL2
      by_cases hs2 : s2 = 0
      · subst hs2
        obtain rfl : l = R := by have := hS4.out; rw [if_pos rfl] at this; exact this
        have hbx := below_new w3 (.cells #[.int .i64 0] 3)
        obtain ⟨w4, hw4⟩ : ∃ w4 : World, w4 = w3.alloc (.cells #[.int .i64 0] 3) := ⟨_, rfl⟩
        rw [← hw4] at hbx
        have HW4 := Lib.hid hw4
        have BL4 := Lib.hid (below_next BL3.out hbx)
        have O4 := Lib.hid (O3.out.keep hbx)
        have HK1b := Lib.hid (HK1.out.keep BL4.out)
        have c0 := HK1b.out.cell 0
        have c1' := HK1b.out.cell 1
        simp at c0 c1'
        have C0 := Lib.hid c0
        clear hw4 hbx c0 c1'
        go_wp2_with fail
        rw [← HW4.out]
        clear HW4
        have c0 := C0.out
        have l2 : w.heap.size < w4.heap.size := (cell_lt c0).1
        have hS : w4.drew.cell? ⟨w.heap.size, 0, none⟩ = some (.int .i64 vars) := keepBox (below_drewN w4 1) c0
        refine wp_region_tail (fun w' => w'.cell? ⟨w.heap.size, 0, none⟩ = some (.int .i64 vars)) [] (by kernel_rfl) ?_
        refine take0 (i := 0) (oi := _) (v := ?_) rfl (by kernel_rfl) (by kernel_rfl) (by kernel_rfl) (fun _ _ _ h => h) rfl (Or.inl ⟨by rfl, ?_⟩) (fun _ => hS) ?_
        rotate_left
        · intro w0; go_simp; with_reducible rfl
        (try simp only [Act.put, List.setIfInBounds_toArray, List.set_cons_zero, List.set_cons_succ])
        refine takeS (i := 1) (oi := _) (v := ?_) rfl (by kernel_rfl) (by kernel_rfl) (by kernel_rfl) (fun _ _ _ h => h) rfl (by kernel_rfl) (by kernel_rfl) (Or.inl ⟨by rfl, ?_⟩) hS ?_
        rotate_left
        · intro w0 hSw; (try dsimp only at hSw); go_simp; with_reducible rfl
        (try simp only [Act.put, List.setIfInBounds_toArray, List.set_cons_zero, List.set_cons_succ])
        refine take0 (i := 2) (oi := _) (v := ?_) rfl (by kernel_rfl) (by kernel_rfl) (by kernel_rfl) (fun _ _ _ h => h) rfl (Or.inl ⟨by rfl, ?_⟩) (fun _ => hS) ?_
        rotate_left
        · intro w0; go_simp; with_reducible rfl
        (try simp only [Act.put, List.setIfInBounds_toArray, List.set_cons_zero, List.set_cons_succ])
        refine take0 (i := 5) (oi := _) (v := ?_) rfl (by kernel_rfl) (by kernel_rfl) (by kernel_rfl) (fun _ _ _ h => h) rfl (Or.inl ⟨by rfl, ?_⟩) (fun _ => hS) ?_
        rotate_left
        · intro w0; go_simp; with_reducible rfl
        (try simp only [Act.put, List.setIfInBounds_toArray, List.set_cons_zero, List.set_cons_succ])
        refine oneT (i := 3) (by kernel_rfl) rfl (by rfl) (fun K hK => ?_)
        go_simp
        refine (clip_any L nl cv _ hcv1 (by omega) (fun e => by have := O4.out.none_ e; omega)).mono ?_
        rintro e w10 ⟨rfl, m10, hw10⟩
        have B10 : Hid (Below w4.heap.size w4 w10) := by rw [hw10]; exact below_next (below_drewN _ 1) (below_drewN _ _)
        have O10 := Lib.hid (O4.out.keep B10.out)
        have BB := Lib.hid (below_next BL4.out B10.out)
        have HK2b := Lib.hid (HK2.out.keep BB.out)
        have HK3b := Lib.hid (HK3.out.keep BB.out)
        clear hw10
        have hS : w10.cell? ⟨w.heap.size, 0, none⟩ = some (.int .i64 vars) := keepBox B10.out c0
        refine hK _ _ (fun _ => hS) ?_
        clear hK
        (try simp only [Act.put, List.setIfInBounds_toArray, List.set_cons_zero, List.set_cons_succ])
        refine take0 (i := 4) (oi := _) (v := ?_) rfl (by kernel_rfl) (by kernel_rfl) (by kernel_rfl) (fun _ _ _ h => h) rfl (Or.inl ⟨by rfl, ?_⟩) (fun _ => hS) ?_
        rotate_left
        · intro w0; go_simp; with_reducible rfl
        (try simp only [Act.put, List.setIfInBounds_toArray, List.set_cons_zero, List.set_cons_succ])
        have k20 := HK2b.out.cell 0
        have k21 := HK2b.out.cell 1
        have k30 := HK3b.out.cell 0
        have k31 := HK3b.out.cell 1
        have g20 := HK2b.out.frozen 0
        have g21 := HK2b.out.frozen 1
        have g30 := HK3b.out.frozen 0
        have g31 := HK3b.out.frozen 1
        simp at k20 k21 k30 k31
        have lw2 := HK2b.out.lt
        have lw3 := HK3b.out.lt
        obtain ⟨w11, hw11⟩ : ∃ w11 : World, w11 = (w10.setCell ⟨w.heap.size + 1, 0, none⟩ (.int .i64 vars)).setCell ⟨w.heap.size + 1, 1, none⟩ (.slice L nl nl) := ⟨_, rfl⟩
        have J2 : Hid (Blk w11 (w.heap.size + 1) 25 #[.int .i64 vars, .slice L nl nl]) := by rw [hw11]; have := (HK2b.out.set_ 0 (.int .i64 vars)).set_ 1 (.slice L nl nl); simpa [Hid] using this
        have J3 : Hid (Blk w11 (w.heap.size + 1 + 1) 28 #[.int .i64 0, .int .i64 0]) := by rw [hw11]; exact (HK3b.out.far (p := ⟨w.heap.size + 1, 0, none⟩) (by simp) _).far (p := ⟨w.heap.size + 1, 1, none⟩) (by simp) _
        have J1 : Hid (w11.cell? ⟨w.heap.size, 0, none⟩ = some (.int .i64 vars)) := by rw [hw11]; have hk := ((HK1.out.keep BB.out).far (p := ⟨w.heap.size + 1, 0, none⟩) (by simp) (.int .i64 vars)).far (p := ⟨w.heap.size + 1, 1, none⟩) (by simp) (.slice L nl nl); show _ = _; rw [hk.cell 0]; rfl
        have O11 : Hid (OwnP 22 3 w11 w0.heap.size 0 L nl cl l) := by rw [hw11]; exact (O10.out.box (grown_setCell _ ⟨w.heap.size + 1, 0, none⟩ _) (Typed.of_blk HK2b.out) int_ne_cnf (by simp; omega)).box (grown_setCell _ ⟨w.heap.size + 1, 1, none⟩ _) (Typed.of_blk (HK2b.out.set_ 0 _)) int_ne_cnf (by simp; omega)
        have BC : Hid (Below w.heap.size w w11) := by rw [hw11]; exact below_put2 (below_next HB0.out BB.out) (g := w.heap.size + 1) (by omega) _ _
        refine oneT (i := 6) (by kernel_rfl) rfl (by rfl) (fun K hK => ?_)
        go_simp
        rw [← hw11]
        clear hw11 k20 k21 k30 k31 g20 g21 g30 g31 HK2b HK3b O10 lw2 lw3
        have hS := J1.out
        refine hK _ _ (fun _ => hS) ?_
        clear hK
        (try simp only [Act.put, List.setIfInBounds_toArray, List.set_cons_zero, List.set_cons_succ])
        have k20 := J2.out.cell 0
        have k21 := J2.out.cell 1
        have k30 := J3.out.cell 0
        have k31 := J3.out.cell 1
        have g30 := J3.out.frozen 0
        have g31 := J3.out.frozen 1
        simp at k20 k21 k30 k31
        have lw2 := J2.out.lt
        have lw3 := J3.out.lt
        have SI : Hid ((w11.setCell ⟨w.heap.size + 1 + 1, 0, none⟩ (.int .i64 0)).setCell ⟨w.heap.size + 1 + 1, 1, none⟩ (.int .i64 0) = w11) := by rw [setCell_id J3.out rfl, setCell_id J3.out rfl]; rfl
        refine oneT (i := 7) (by kernel_rfl) rfl (by rfl) (fun K hK => ?_)
        go_simp
        rw [SI.out]
        refine hK _ _ (fun _ => hS) ?_
        clear hK
        (try simp only [Act.put, List.setIfInBounds_toArray, List.set_cons_zero, List.set_cons_succ])
        refine doneT (by kernel_rfl) ?_ _
        go_wp2_with fail
        exact bodyPost_ret (v := .tuple #[.agg #[.int .i64 vars, .slice L nl nl], .agg #[.int .i64 0, .int .i64 0]]) (by simp [results, Tryz.results7, go_sem, k20, k21, k30, k31]) rfl ⟨L, nl, nl, rfl, O11.out.grid.clip, BC.out⟩
      · have hS5 : Hid (subF f (normF (l.set s1 (cutF l s1 s2))) = R) := by have := hS4.out; rw [if_neg hs2] at this; exact this
        have dz : (s2 == 0) = false := by simpa using hs2
        have hsl := sndF_lt (l := l) (by rw [hsn.out]; exact hs2)
        rw [hsn.out, HLL.out] at hsl
        simp only at hsl
        obtain ⟨pa, _, b, x, hbk, hx2, _, hxb, _⟩ := sndF_spec (l := l) (by rw [hsn.out]; exact hs2)
        rw [hsn.out] at hbk hx2
        simp only at hbk hx2
        rw [← hx2] at hxb
        have hM5 : Hid (muF (normF (l.set s1 (cutF l s1 s2))) < f) := by have h1 := mu_snd (l := l) (by rw [hsn.out]; exact hs2); rw [hsn.out] at h1; have h2 := hM.out; simp only at h1; show _ < _; omega
        have hT5 : Hid (Tidy vars (normF (l.set s1 (cutF l s1 s2)))) := by have h1 := hT.out.cut (by rw [hsn.out]; exact hs2); rw [hsn.out] at h1; exact h1
        have hcut := Lib.hid (cutF_eq hbk s2)
        obtain ⟨g, X, nx, cx, b', hLe, hg0, hgl, hcx, hfx, hX, hAX, hbk'⟩ := (O3.out.keep (below_new w3 (.cells #[.int .i64 s2] 3))).round hsl
        obtain rfl : b' = b := by have := hbk'.out; rw [hbk] at this; cases this; rfl
        subst hLe
        have hlb := HLT.out b' (List.mem_of_getElem? hbk)
        have hnx : nx ≤ 1000 := by have h1 := hlb.len_le v0; rw [hX.len] at h1; omega
        have hpos : 0 < nx := by rw [← hX.len]; exact List.length_pos_of_mem hxb
        have HBI : Hid (∀ z ∈ b', I64 z) := fun z hz => by have := hlb.1 z hz; unfold I64; omega
        have HX := Lib.hid hX
        have y1 : (0 : Int) ≤ (s1 : Int) := by omega
        have y2 : (s1 : Int) < (nl : Int) := by omega
        have hxl := Lib.hid hX.len
        have HBK := Lib.hid hbk
        clear hX hAX hbk' hS4 hlb hxb hx2 hbk
        go_wp2_with fail
        refine (clone_ints _ _ _ b' _ HX.out (by omega)).mono ?_
        rintro e w5 ⟨A5, n5, c5, rfl, hown5, hb5⟩
        obtain ⟨KX, B5, l5⟩ := blk1 hb5
        have hn5 : n5 = nx := by have h1 := hown5.len; rw [List.length_map, hxl.out] at h1; exact h1.symm
        subst hn5
        obtain ⟨g5, _, hA5, hg5, _⟩ := hown5.at_ hpos
        subst hA5
        have O5 := Lib.hid hown5
        have kx0 := KX.cell 0
        simp at kx0
        have KX0 := Lib.hid kx0
        have HB5 := Lib.hid hb5
        clear hown5 hb5 B5 KX kx0 hcx hfx hgl
        go_wp2_with fail
        refine (deleteFunc_ints _ g5 n5 c5 w3.heap.size b' s2 w5 O5.out HBI.out KX0.out (by simp) (by omega)).mono ?_
        rintro e w6 ⟨n6, rfl, hO6, hg6⟩
        have IT6 := Lib.hid (hO6.ints (xs := b'.filter (fun y => y != s2)) (fun z hz => HBI.out z (List.mem_filter.1 hz).1))
        have AW6 : Hid (Away 3 w6 0 (some ⟨g5, 0, none⟩) n6) := Away.own hO6
        have BW6 : Hid (Below (w3.alloc (.cells #[.int .i64 s2] 3)).heap.size (w3.alloc (.cells #[.int .i64 s2] 3)) w6) := HB5.out.grown hg6 HB5.out.size (fun k' hk' => by cases hk'; exact hg5)
        have OL6 := Lib.hid ((O3.out.keep (below_new w3 (.cells #[.int .i64 s2] 3))).keep BW6.out)
        have BL6 := Lib.hid (below_next (below_alloc BL3.out (.cells #[.int .i64 s2] 3)) BW6.out)
        obtain ⟨g7, _, _, _, _, hLe, _, hgl6, hc6, hf6, _⟩ := OL6.out.round hsl
        cases hLe
        have P6 := Lib.hid (OL6.out.put (Nat.zero_le _) row_ne hsl IT6.out AW6.out)
        have BL7 : Hid (Below w0.heap.size w0 (w6.setCell ⟨g, s1, none⟩ (.slice (some ⟨g5, 0, none⟩) n6 c5))) := BL6.out.setCell (p := ⟨g, s1, none⟩) hg0 _
        rw [← hcut.out] at P6
        have HSB : Hid (∀ xs ∈ l.set s1 (cutF l s1 s2), ∀ z ∈ xs, -1000000 ≤ z ∧ z ≤ 1000000) := fun xs hxs z hz => by
          rcases List.mem_or_eq_of_mem_set hxs with hxs | rfl
          · have := (HLT.out xs hxs).1 z hz; omega
          · rw [hcut.out] at hz
            have := (HLT.out b' (List.mem_of_getElem? HBK.out)).1 z (List.mem_filter.1 hz).1
            omega
        have HWD : Hid (∀ xs ∈ l.set s1 (cutF l s1 s2), xs.length ≤ 1000000) := fun xs hxs => by
          rcases List.mem_or_eq_of_mem_set hxs with hxs | rfl
          · have := (hT.out.2 xs hxs).1; omega
          · rw [hcut.out]
            have h1 := List.length_filter_le (fun y => y != s2) b'
            have h2 := (hT.out.2 b' (List.mem_of_getElem? HBK.out)).1
            omega
        clear hO6 hg6 HB5 O5 HX BL6 BW6 O3
        go_wp2_with fail
        refine (normal_any _ _ _ (l.set s1 (cutF l s1 s2)) _ (P6.out.grid.recap hcv1 hcv2) HSB.out HWD.out (by omega)).mono ?_
        rintro e w8 ⟨A8, n8, c8, rfl, hO8, hb8⟩
        obtain ⟨hl8, hnc8, _⟩ := hO8.len'
        have hn8 : n8 ≤ 400 := by have h1 := normF_len (l.set s1 (cutF l s1 s2)); rw [hl8, List.length_set, HLL.out] at h1; omega
        have O8 := Lib.hid (hO8.mono (base' := w0.heap.size) BL7.out.size (Nat.le_refl _))
        have BL8 := Lib.hid (below_next BL7.out hb8)
        clear hO8 hb8 hl8
        go_wp2_with fail
        go_roundg f
        case rel => exact ⟨A8, n8, c8, c8, _, rfl, hnc8, Nat.le_refl _, hn8, O8, hT5, hM5, hS5, BL8⟩
        case measure => omega
end Go.Proofs.YtlfgcblijfflfaaGreat
