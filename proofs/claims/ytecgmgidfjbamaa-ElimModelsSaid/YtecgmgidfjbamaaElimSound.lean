/- A variable that goes may be something (Davis, Putnam), plainly. -/
import Derived.Test.YtecgmgidfjbamaaElimPlain
import Derived.Test.YtecgmgidfjbamaaBlkPlain
namespace Go.Proofs.Ytecgmgidfjbamaa

theorem litB_set_v {a : List Bool} {v : Nat} {q : Bool} (hv : 1 ≤ v) (hl : v ≤ a.length) : litB (a.set (v - 1) q) (v : Int) = q := by
  unfold litB
  have h1 : (v : Int).natAbs - 1 = v - 1 := by omega
  rw [h1, List.getElem?_set_self (by omega)]
  have h2 : decide (0 < (v : Int)) = true := by simp; omega
  rw [h2]
  cases q <;> rfl
theorem satB_no {a : List Bool} {x : List Int} (h : satB a x = false) {y : Int} (hy : y ∈ x) : litB a y = false := by
  unfold satB at h
  rw [List.any_eq_false] at h
  simpa using h y hy
/-- A clause that is false with v so, where all that is behind holds, has the literal of v that is false. -/
theorem elim_has {vars : Int} {l : List (List Int)} {v : Nat} {a : List Bool} {q : Bool} {x : List Int} (hl : ∀ x ∈ l, Lits vars x) (hv : 1 ≤ v) (hla : v ≤ a.length) (h : allB (elimF l v) a = true) (hx : x ∈ l) (hs : satB (a.set (v - 1) q) x = false) :
    (if q then -(v : Int) else v) ∈ x ∧ ∀ y ∈ x, y ≠ (if q then -(v : Int) else v) → (y.natAbs : Int) ≠ v ∧ litB a y = false := by
  have lx := hl x hx
  have key : ∀ y ∈ x, (y.natAbs : Int) ≠ v → litB a y = false := fun y hy hne => by
    rw [← litB_other (a := a) (v := v) (q := q) hv (lx.1 y hy).1 (by omega)]
    exact satB_no hs hy
  have hin : (v : Int) ∈ x ∨ -(v : Int) ∈ x := by
    rcases Classical.em ((v : Int) ∈ x) with h1 | h1
    · exact .inl h1
    · rcases Classical.em (-(v : Int) ∈ x) with h2 | h2
      · exact .inr h2
      · exfalso
        have hz : sortF x ∈ elimF l v := normF_mem.2 ⟨x, mem_outR.2 (.inl ⟨hx, h1, h2⟩), rfl⟩
        have := allB_mem.1 h _ hz
        rw [satB_perm (sortF_perm x)] at this
        obtain ⟨y, hy, ly⟩ := List.any_eq_true.1 this
        have hne : (y.natAbs : Int) ≠ v := fun e => by
          rcases (by omega : y = v ∨ y = -(v : Int)) with e1 | e1
          · exact h1 (e1 ▸ hy)
          · exact h2 (e1 ▸ hy)
        rw [key y hy hne] at ly
        cases ly
  have hlv := litB_set_v (q := q) hv hla
  have hln : litB (a.set (v - 1) q) (-(v : Int)) = !q := by rw [litB_not (by omega), hlv]
  have hmem : (if q then -(v : Int) else v) ∈ x := by
    cases q
    · rcases hin with h1 | h1
      · exact h1
      · have := satB_no hs h1; rw [hln] at this; cases this
    · rcases hin with h1 | h1
      · have := satB_no hs h1; rw [hlv] at this; cases this
      · exact h1
  refine ⟨hmem, fun y hy hne => ?_⟩
  have hny : (y.natAbs : Int) ≠ v := fun e => hne (lx.only hmem hy (by cases q <;> simp <;> omega))
  exact ⟨hny, key y hy hny⟩
/-- DAVIS, PUTNAM: for one value of v all hold: true, if they do not for false. -/
theorem elim_mend {vars : Int} {l : List (List Int)} {v : Nat} {a : List Bool} (hl : ∀ x ∈ l, Lits vars x) (hv : 1 ≤ v) (hla : v ≤ a.length) (h : allB (elimF l v) a = true) : allB l (a.set (v - 1) (!allB l (a.set (v - 1) false))) = true := by
  cases h0 : allB l (a.set (v - 1) false)
  · have : ∃ x ∈ l, satB (a.set (v - 1) false) x = false := by
      unfold allB at h0
      rw [List.all_eq_false] at h0
      obtain ⟨x, hx, hs⟩ := h0
      exact ⟨x, hx, by simpa using hs⟩
    obtain ⟨p, hp, hsp⟩ := this
    obtain ⟨p1, p2⟩ := elim_has hl hv hla h hp hsp
    simp only [Bool.false_eq_true, if_false] at p1 p2
    simp only [Bool.not_false]
    rw [allB_mem]
    intro q hq
    cases hsq : satB (a.set (v - 1) true) q
    · exfalso
      obtain ⟨q1, q2⟩ := elim_has hl hv hla h hq hsq
      simp only [if_true] at q1 q2
      have hsome : (rsF v (p ++ q) []).isSome = true := by
        rw [rsF_two (hl p hp) (hl q hq)]
        intro x hx y hy hny e
        have hyn : y ≠ -(v : Int) := fun e' => hny (by omega)
        have hxn : x ≠ v := fun e' => hny (by omega)
        have l1 := (q2 y hy hyn).2
        have l2 := (p2 x hx hxn).2
        rw [← e, litB_not ((hl q hq).1 y hy).1, l1] at l2
        cases l2
      obtain ⟨o, ho⟩ := Option.isSome_iff_exists.1 hsome
      have hres : resF p q v = (sortF o, 0) := by
        unfold resF
        rw [hasB_iff.2 p1, hasB_iff.2 q1, ho]
        rfl
      have hz : sortF (sortF o) ∈ elimF l v := normF_mem.2 ⟨sortF o, mem_outR.2 (.inr ⟨p, hp, q, hq, hres⟩), rfl⟩
      have hs := allB_mem.1 h _ hz
      rw [sortF_idem, satB_perm (sortF_perm o)] at hs
      obtain ⟨y, hy, ly⟩ := List.any_eq_true.1 hs
      rcases (rsF_mem v _ _ _ ho y).1 hy with h1 | ⟨h1, h2⟩
      · simp at h1
      · rcases List.mem_append.1 h1 with h1 | h1
        · rw [(p2 y h1 (fun e => h2 (by omega))).2] at ly; cases ly
        · rw [(q2 y h1 (fun e => h2 (by omega))).2] at ly; cases ly
    · rfl
  · simp only [Bool.not_true]
    exact h0
/-- .. and if all hold for some value, what is behind does. -/
theorem elim_some {vars : Int} {l : List (List Int)} {v : Nat} {a : List Bool} {q : Bool} (hl : ∀ x ∈ l, Lits vars x) (hv : 1 ≤ v) (h : allB l (a.set (v - 1) q) = true) : allB (elimF l v) a = true := by
  have h1 := elimF_of (v := v) hl (by omega) h
  rw [allB_mem] at h1 ⊢
  intro z hz
  rw [← satB_other (v := v) (q := q) hv (fun y hy => (elimF_lits hl z hz).1 y hy |>.1) (fun y hy => by have := elimF_free hl (by omega) z hz y hy; omega)]
  exact h1 z hz
end Go.Proofs.Ytecgmgidfjbamaa
