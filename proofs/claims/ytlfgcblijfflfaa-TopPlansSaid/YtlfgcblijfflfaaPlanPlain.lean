/- Plans, plainly: acts, states as masks of four facts, walks. Of no program. -/
import Derived.Test.YtlfgcblijfflfaaSatPlain
namespace Go.Proofs.Ytlfgcblijfflfaa
set_option linter.unusedSimpArgs false
set_option linter.unusedVariables false

/-- The facts below i that a mask has. -/
def someI (z i : Nat) : List Int := ((List.range i).filter z.testBit).map (fun k : Nat => (k : Int))
def someF (z : Nat) : List Int := someI z 4
theorem someI_succ (z i : Nat) : someI z (i + 1) = someI z i ++ (if z.testBit i = true then [(i : Int)] else []) := by
  unfold someI
  rw [List.range_succ, List.filter_append, List.map_append]
  congr 1
  by_cases h : z.testBit i = true
  · simp [h]
  · simp [h]
theorem mem_someI {z i : Nat} {x : Int} : x ∈ someI z i ↔ ∃ k : Nat, k < i ∧ z.testBit k = true ∧ x = (k : Int) := by
  simp only [someI, List.mem_map, List.mem_filter, List.mem_range]
  exact ⟨fun ⟨k, ⟨h1, h2⟩, h3⟩ => ⟨k, h1, h2, h3.symm⟩, fun ⟨k, h1, h2, h3⟩ => ⟨k, ⟨h1, h2⟩, h3.symm⟩⟩
theorem someI_up (z i : Nat) : (someI z i).Pairwise (fun x y => x < y) := by
  unfold someI
  rw [List.pairwise_map]
  exact ((List.pairwise_lt_range).filter _).imp (fun h => by omega)
theorem someI_len (z i : Nat) : (someI z i).length ≤ i := by
  unfold someI
  rw [List.length_map]
  exact Nat.le_trans (List.length_filter_le _ _) (by simp)

/-- An act: masks of what it needs, what bars it, what it adds and drops. -/
structure Ac where
  need : Nat
  bar : Nat
  add : Nat
  drop : Nat
structure AcOk (a : Ac) : Prop where
  n : a.need < 16
  b : a.bar < 16
  p : a.add < 16
  d : a.drop < 16
  ad : a.add &&& a.drop = 0
  nb : a.need &&& a.bar = 0
def appF (a : Ac) (s : Nat) : Option Nat := if s &&& a.need = a.need ∧ s &&& a.bar = 0 then some ((s &&& (15 ^^^ a.drop)) ||| a.add) else none
def acAt (al : List Ac) (k : Nat) : Ac := al.getD k ⟨0, 0, 0, 0⟩
def walkF (al : List Ac) : List Nat → Nat → Option Nat
  | [], s => some s
  | k :: r, s => if k < al.length then (appF (acAt al k) s).bind (walkF al r) else none
theorem walkF_append (al : List Ac) : ∀ (p q : List Nat) (s : Nat), walkF al (p ++ q) s = (walkF al p s).bind (walkF al q)
  | [], q, s => rfl
  | k :: r, q, s => by
    show (if k < al.length then (appF (acAt al k) s).bind (walkF al (r ++ q)) else none) = ((if k < al.length then (appF (acAt al k) s).bind (walkF al r) else none)).bind _
    split
    · cases appF (acAt al k) s with
      | none => rfl
      | some x => exact walkF_append al r q x
    · rfl
theorem bit_eq {s t : Nat} (hs : s < 16) (ht : t < 16) (h : ∀ i, i < 4 → s.testBit i = t.testBit i) : s = t := by
  apply Nat.eq_of_testBit_eq
  intro i
  by_cases hi : i < 4
  · exact h i hi
  · have hp : 2 ^ 4 ≤ 2 ^ i := Nat.pow_le_pow_right (by omega) (by omega)
    rw [Nat.testBit_lt_two_pow (Nat.lt_of_lt_of_le hs hp), Nat.testBit_lt_two_pow (Nat.lt_of_lt_of_le ht hp)]
theorem bit_hi {s i : Nat} (hs : s < 16) (h : s.testBit i = true) : i < 4 := by
  rcases Nat.lt_or_ge i 4 with h4 | h4
  · exact h4
  · have hp : 2 ^ 4 ≤ 2 ^ i := Nat.pow_le_pow_right (by omega) h4
    rw [Nat.testBit_lt_two_pow (Nat.lt_of_lt_of_le hs hp)] at h
    cases h
theorem has_iff {s g : Nat} (hs : s < 16) (hg : g < 16) : s &&& g = g ↔ ∀ i, g.testBit i = true → s.testBit i = true := by
  constructor
  · intro h i hi
    have : (s &&& g).testBit i = true := by rw [h]; exact hi
    rw [Nat.testBit_and] at this
    simp at this
    exact this.1
  · intro h
    apply Nat.eq_of_testBit_eq
    intro i
    rw [Nat.testBit_and]
    cases e : g.testBit i with
    | false => simp
    | true => simp [h i e]
theorem none_iff {s g : Nat} : s &&& g = 0 ↔ ∀ i, g.testBit i = true → s.testBit i = false := by
  constructor
  · intro h i hi
    have : (s &&& g).testBit i = false := by rw [h]; exact Nat.zero_testBit i
    rw [Nat.testBit_and, hi] at this
    simpa using this
  · intro h
    apply Nat.eq_of_testBit_eq
    intro i
    rw [Nat.testBit_and, Nat.zero_testBit]
    cases e : g.testBit i with
    | false => simp
    | true => simp [h i e]
theorem mask_lt (s d a : Nat) (hs : s < 16) (ha : a < 16) : (s &&& (15 ^^^ d)) ||| a < 16 := Nat.or_lt_two_pow (n := 4) (Nat.lt_of_le_of_lt Nat.and_le_left hs) ha
theorem mask_bit (s d a i : Nat) (hi : i < 4) : ((s &&& (15 ^^^ d)) ||| a).testBit i = ((s.testBit i && !d.testBit i) || a.testBit i) := by
  rw [Nat.testBit_or, Nat.testBit_and, Nat.testBit_xor]
  have : (15 : Nat).testBit i = true := by
    have h : ∀ i, i < 4 → (15 : Nat).testBit i = true := by decide
    exact h i hi
  rw [this]
  simp
theorem app_some {a : Ac} {s s' : Nat} (ha : AcOk a) (hs : s < 16) : appF a s = some s' ↔ (∀ i, a.need.testBit i = true → s.testBit i = true) ∧ (∀ i, a.bar.testBit i = true → s.testBit i = false) ∧ s' < 16 ∧ ∀ i, i < 4 → s'.testBit i = ((s.testBit i && !a.drop.testBit i) || a.add.testBit i) := by
  have e1 := has_iff (s := s) hs ha.n
  have e2 := none_iff (s := s) (g := a.bar)
  unfold appF
  constructor
  · intro h
    split at h
    · rename_i hh
      cases h
      exact ⟨e1.1 hh.1, e2.1 hh.2, mask_lt s a.drop a.add hs ha.p, fun i hi => mask_bit s a.drop a.add i hi⟩
    · cases h
  · rintro ⟨h1, h2, h3, h4⟩
    rw [if_pos ⟨e1.2 h1, e2.2 h2⟩]
    congr 1
    exact bit_eq (mask_lt s a.drop a.add hs ha.p) h3 (fun i hi => by rw [mask_bit s a.drop a.add i hi, h4 i hi])
theorem app_lt {a : Ac} {s s' : Nat} (ha : AcOk a) (hs : s < 16) (h : appF a s = some s') : s' < 16 := ((app_some ha hs).1 h).2.2.1
theorem acAt_ok {al : List Ac} (h : ∀ a ∈ al, AcOk a) {k : Nat} (hk : k < al.length) : AcOk (acAt al k) := by
  unfold acAt
  rw [List.getD_eq_getElem?_getD, List.getElem?_eq_getElem hk]
  exact h _ (List.getElem_mem hk)
theorem walk_lt {al : List Ac} (h : ∀ a ∈ al, AcOk a) : ∀ {p : List Nat} {s s' : Nat}, s < 16 → walkF al p s = some s' → s' < 16
  | [], s, s', hs, hw => by cases hw; exact hs
  | k :: r, s, s', hs, hw => by
    unfold walkF at hw
    split at hw
    · rename_i hk
      cases e : appF (acAt al k) s with
      | none => rw [e] at hw; cases hw
      | some x =>
        rw [e] at hw
        exact walk_lt h (app_lt (acAt_ok h hk) hs e) hw
    · cases hw
end Go.Proofs.Ytlfgcblijfflfaa
