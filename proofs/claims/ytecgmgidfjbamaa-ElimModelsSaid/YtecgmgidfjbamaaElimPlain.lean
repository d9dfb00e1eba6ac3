/- A variable that goes, plainly: clauses then, and when they hold. -/
import Derived.Test.YtecgmgidfjbamaaResPlain
import Derived.Test.YtecgmgidfjbamaaSubSound
namespace Go.Proofs.Ytecgmgidfjbamaa

theorem normF_congr {l m : List (List Int)} (h : ∀ z, (∃ x ∈ l, z = sortF x) ↔ ∃ x ∈ m, z = sortF x) : normF l = normF m :=
  sortedR_eq (normF_sorted _) (normF_sorted _) fun z => by rw [normF_mem, normF_mem, h z]
/-- Clauses that have neither v nor -v. -/
def freeF (l : List (List Int)) (v : Int) : List (List Int) := l.filter (fun x => !hasB x v && !hasB x (-v))
/-- What a and the clauses l resolve to on v. -/
def resWith (v : Int) (a : List Int) (l : List (List Int)) : List (List Int) := l.filterMap (fun b => (rsF v (a ++ b) []).map sortF)
/-- The program's: the rest, then the resolvents of those with v and those with -v. -/
def outP (l : List (List Int)) (v : Int) : List (List Int) := freeF l v ++ (l.filter (fun x => hasB x v)).flatMap (fun a => resWith v a (l.filter (fun x => !hasB x v && hasB x (-v))))
/-- The reference's, of one clause: itself, if it is free; what it resolves to. -/
def outOne (l : List (List Int)) (v : Int) (a : List Int) : List (List Int) := (if !hasB a v && !hasB a (-v) then [a] else []) ++ l.filterMap (fun b => if (resF a b v).2 = 0 then some (resF a b v).1 else none)
def outR (l : List (List Int)) (v : Int) : List (List Int) := l.flatMap (outOne l v)
/-- Clauses behind a variable that goes. -/
def elimF (l : List (List Int)) (v : Int) : List (List Int) := normF (outR l v)

theorem mem_outR {l : List (List Int)} {v : Int} {z : List Int} : z ∈ outR l v ↔ (z ∈ l ∧ v ∉ z ∧ -v ∉ z) ∨ ∃ a ∈ l, ∃ b ∈ l, resF a b v = (z, 0) := by
  unfold outR outOne
  rw [List.mem_flatMap]
  constructor
  · rintro ⟨a, ha, hz⟩
    rcases List.mem_append.1 hz with hz | hz
    · by_cases h : (!hasB a v && !hasB a (-v)) = true
      · rw [if_pos h] at hz
        simp at hz
        subst hz
        simp only [Bool.and_eq_true, Bool.not_eq_true'] at h
        exact .inl ⟨ha, hasB_false.1 h.1, hasB_false.1 h.2⟩
      · rw [if_neg h] at hz; simp at hz
    · obtain ⟨b, hb, h⟩ := List.mem_filterMap.1 hz
      by_cases h0 : (resF a b v).2 = 0
      · rw [if_pos h0] at h
        exact .inr ⟨a, ha, b, hb, Prod.ext (by simpa using h) h0⟩
      · rw [if_neg h0] at h; cases h
  · rintro (⟨hz, h1, h2⟩ | ⟨a, ha, b, hb, h⟩)
    · refine ⟨z, hz, List.mem_append_left _ ?_⟩
      rw [if_pos (by simp [hasB_false.2 h1, hasB_false.2 h2])]
      simp
    · refine ⟨a, ha, List.mem_append_right _ (List.mem_filterMap.2 ⟨b, hb, ?_⟩)⟩
      rw [h]
      simp
theorem mem_outP {vars : Int} {l : List (List Int)} {v : Int} {z : List Int} (hl : ∀ x ∈ l, Lits vars x) (hv : v ≠ 0) : z ∈ outP l v ↔ z ∈ outR l v := by
  rw [mem_outR]
  unfold outP freeF resWith
  rw [List.mem_append, List.mem_filter, List.mem_flatMap]
  constructor
  · rintro (⟨hz, h⟩ | ⟨a, ha, hz⟩)
    · simp only [Bool.and_eq_true, Bool.not_eq_true'] at h
      exact .inl ⟨hz, hasB_false.1 h.1, hasB_false.1 h.2⟩
    · obtain ⟨ha, hav⟩ := List.mem_filter.1 ha
      obtain ⟨b, hb, h⟩ := List.mem_filterMap.1 hz
      obtain ⟨hb, hbv⟩ := List.mem_filter.1 hb
      simp only [Bool.and_eq_true, Bool.not_eq_true'] at hbv
      obtain ⟨o, ho, rfl⟩ := Option.map_eq_some_iff.1 h
      exact .inr ⟨a, ha, b, hb, by rw [resF, hav, hbv.2, ho]; rfl⟩
  · rintro (⟨hz, h1, h2⟩ | ⟨a, ha, b, hb, h⟩)
    · exact .inl ⟨hz, by simp [hasB_false.2 h1, hasB_false.2 h2]⟩
    · obtain ⟨h1, h2, o, ho, rfl⟩ := resF_parts h
      have hbv : v ∉ b := fun hvb => by
        have := (hl b hb).only hvb h2 (by omega)
        omega
      exact .inr ⟨a, List.mem_filter.2 ⟨ha, hasB_iff.2 h1⟩, List.mem_filterMap.2 ⟨b, List.mem_filter.2 ⟨hb, by simp [hasB_false.2 hbv, hasB_iff.2 h2]⟩, by rw [ho]; rfl⟩⟩
/-- Both tell the same. -/
theorem out_eq {vars : Int} {l : List (List Int)} {v : Int} (hl : ∀ x ∈ l, Lits vars x) (hv : v ≠ 0) : normF (outP l v) = elimF l v :=
  normF_congr fun z => by
    constructor
    · rintro ⟨x, hx, rfl⟩; exact ⟨x, (mem_outP hl hv).1 hx, rfl⟩
    · rintro ⟨x, hx, rfl⟩; exact ⟨x, (mem_outP hl hv).2 hx, rfl⟩
theorem outR_lits {vars : Int} {l : List (List Int)} {v : Int} (hl : ∀ x ∈ l, Lits vars x) : ∀ x ∈ outR l v, Lits vars x := fun z hz => by
  rcases mem_outR.1 hz with ⟨hz, _⟩ | ⟨a, ha, b, hb, h⟩
  · exact hl z hz
  · exact resF_lits (hl a ha) (hl b hb) h
theorem elimF_lits {vars : Int} {l : List (List Int)} {v : Int} (hl : ∀ x ∈ l, Lits vars x) : ∀ x ∈ elimF l v, Lits vars x := fun z hz => by
  obtain ⟨y, hy, rfl⟩ := normF_mem.1 hz
  exact (outR_lits hl y hy).sortF
/-- What is behind has the variable no more. -/
theorem elimF_free {vars : Int} {l : List (List Int)} {v : Int} (hl : ∀ x ∈ l, Lits vars x) (hv : 1 ≤ v) : ∀ x ∈ elimF l v, ∀ y ∈ x, (y.natAbs : Int) ≠ v := fun z hz y hy => by
  have _hl := hl
  obtain ⟨x, hx, rfl⟩ := normF_mem.1 hz
  rw [sortF_mem] at hy
  rcases mem_outR.1 hx with ⟨_, h1, h2⟩ | ⟨a, _, b, _, h⟩
  · intro e
    rcases (by omega : y = v ∨ y = -v) with e1 | e1
    · exact h1 (e1 ▸ hy)
    · exact h2 (e1 ▸ hy)
  · obtain ⟨_, _, o, ho, rfl⟩ := resF_parts h
    rw [sortF_mem] at hy
    rcases (rsF_mem v _ _ _ ho y).1 hy with h0 | ⟨_, h0⟩
    · simp at h0
    · exact h0
theorem litB_other {a : List Bool} {v : Nat} {q : Bool} {y : Int} (hv : 1 ≤ v) (hy : y ≠ 0) (h : y.natAbs ≠ v) : litB (a.set (v - 1) q) y = litB a y := by
  unfold litB
  rw [List.getElem?_set_ne (by omega)]
theorem satB_other {a : List Bool} {v : Nat} {q : Bool} {x : List Int} (hv : 1 ≤ v) (h0 : ∀ y ∈ x, y ≠ 0) (h : ∀ y ∈ x, y.natAbs ≠ v) : satB (a.set (v - 1) q) x = satB a x := by
  unfold satB
  rw [Bool.eq_iff_iff, List.any_eq_true, List.any_eq_true]
  constructor
  · rintro ⟨y, hy, hl⟩; exact ⟨y, hy, by rw [← litB_other hv (h0 y hy) (h y hy)]; exact hl⟩
  · rintro ⟨y, hy, hl⟩; exact ⟨y, hy, by rw [litB_other hv (h0 y hy) (h y hy)]; exact hl⟩
/-- If all hold, what is behind does. -/
theorem elimF_of {vars : Int} {l : List (List Int)} {v : Int} {a : List Bool} (hl : ∀ x ∈ l, Lits vars x) (hv : 1 ≤ v) (h : allB l a = true) : allB (elimF l v) a = true := by
  rw [allB_mem] at h
  unfold elimF
  rw [allB_norm, allB_mem]
  intro z hz
  rcases mem_outR.1 hz with ⟨hz, _⟩ | ⟨p, hp, q, hq, h'⟩
  · exact h z hz
  · exact resF_sat (hl p hp) (hl q hq) h' hv (h p hp) (h q hq)
end Go.Proofs.Ytecgmgidfjbamaa
