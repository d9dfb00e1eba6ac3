/- Variables that go, one behind the other, plainly. -/
import Derived.Test.YtecgmgidfjbamaaElimSound
import Derived.Test.YtecgmgidfjbamaaBoth
namespace Go.Proofs.Ytecgmgidfjbamaa

/-- The stages, and how many variables could go. -/
def goneF (vars : Int) : List Int → List (List Int) → List (List (List Int)) → Nat → List (List (List Int)) × Nat
  | [], _, all, i => (all, i)
  | v :: t, l, all, i => if (checkC vars (elimF l v)).1 ≠ 0 then (all, i) else goneF vars t (elimF l v) (all ++ [elimF l v]) (i + 1)
/-- The first variable that is below 0. -/
def belowF : List Int → Nat → Int × Int
  | [], _ => (0, 0)
  | v :: t, i => if v < 0 then (3, -1 - i) else belowF t (i + 1)
/-- What is wrong with variables beside clauses. -/
def varsR (vars : Int) (xss : List (List Int)) (vs : List Int) : Int × Int := if (besideR vars xss vs).1 ≠ 0 then besideR vars xss vs else belowF vs 0
theorem belowF_ok : ∀ (vs : List Int) (i : Nat), (belowF vs i).1 = 0 → belowF vs i = (0, 0) ∧ ∀ v ∈ vs, 0 ≤ v
  | [], _, _ => ⟨rfl, by simp⟩
  | v :: t, i, h => by
    rw [belowF] at h ⊢
    by_cases h1 : v < 0
    · rw [if_pos h1] at h; simp at h
    · rw [if_neg h1] at h ⊢
      obtain ⟨e, ht⟩ := belowF_ok t (i + 1) h
      refine ⟨e, fun u hu => ?_⟩
      rcases List.mem_cons.1 hu with rfl | hu
      · omega
      · exact ht u hu
theorem varsR_ok {vars : Int} {xss : List (List Int)} {vs : List Int} (h : (varsR vars xss vs).1 = 0) : varsR vars xss vs = (0, 0) ∧ (checkC vars xss).1 = 0 ∧ besideR vars xss vs = (0, 0) ∧ Lits vars vs ∧ ∀ v ∈ vs, 1 ≤ v ∧ v ≤ vars := by
  unfold varsR at h ⊢
  by_cases h1 : (besideR vars xss vs).1 ≠ 0
  · rw [if_pos h1] at h; exact absurd h h1
  · rw [if_neg h1] at h ⊢
    obtain ⟨e1, e2, e3⟩ := besideR_ok (by simpa using h1)
    obtain ⟨e4, e5⟩ := belowF_ok vs 0 h
    exact ⟨e4, e2, e1, e3, fun v hv => by have := e3.1 v hv; have := e5 v hv; omega⟩
/-- Mended: from the last variable that goes to the first. -/
def mendF : List Int → List (List (List Int)) → List Bool → List Bool
  | v :: t, l :: r, a => let b := mendF t r a; b.set (v.natAbs - 1) (!allB l (b.set (v.natAbs - 1) false))
  | _, _, a => a
theorem mendF_len : ∀ (vs : List Int) (ls : List (List (List Int))) (a : List Bool), (mendF vs ls a).length = a.length
  | [], _, _ => by simp [mendF]
  | _ :: _, [], _ => by simp [mendF]
  | v :: t, l :: r, a => by simp [mendF, mendF_len t r a]
/-- What the stages are: each one behind the one ahead. -/
theorem goneF_spec {vars : Int} : ∀ (vs : List Int) (l : List (List Int)) (all : List (List (List Int))) (i : Nat), ∃ ls, (goneF vars vs l all i).1 = all ++ ls ∧ (goneF vars vs l all i).2 = i + ls.length ∧ ls.length ≤ vs.length
  | [], _, all, i => ⟨[], by simp [goneF], by simp [goneF], by simp⟩
  | v :: t, l, all, i => by
    rw [goneF]
    split
    · exact ⟨[], by simp, by simp, by simp⟩
    · obtain ⟨ls, h1, h2, h3⟩ := goneF_spec t (elimF l v) (all ++ [elimF l v]) (i + 1)
      exact ⟨elimF l v :: ls, by rw [h1]; simp, by rw [h2]; simp; omega, by simpa using h3⟩
/-- All variables of vs go: the stages behind l. -/
def chain : List Int → List (List Int) → List (List (List Int))
  | [], _ => []
  | v :: t, l => elimF l v :: chain t (elimF l v)
theorem goneF_chain {vars : Int} : ∀ (vs : List Int) (l : List (List Int)) (all : List (List (List Int))) (i : Nat), (goneF vars vs l all i).2 = i + vs.length → (goneF vars vs l all i).1 = all ++ chain vs l
  | [], _, all, i, _ => by simp [goneF, chain]
  | v :: t, l, all, i, h => by
    rw [goneF] at h ⊢
    split
    · rename_i h1
      rw [if_pos h1] at h
      simp at h
    · rename_i h1
      rw [if_neg h1] at h
      rw [goneF_chain t _ _ _ (by rw [h]; simp; omega), chain]
      simp
/-- The last stage, and mended. -/
theorem mend_ok {vars : Int} : ∀ (vs : List Int) (l : List (List Int)) (a : List Bool), (∀ x ∈ l, Lits vars x) → (∀ v ∈ vs, 1 ≤ v ∧ v ≤ a.length) → allB ((l :: chain vs l).getLast (by simp)) a = true → allB l (mendF vs (l :: chain vs l) a) = true
  | [], l, a, _, _, h => by simpa [chain, mendF] using h
  | v :: t, l, a, hl, hv, h => by
    have hv1 := hv v (by simp)
    have e1 : ((v.natAbs : Nat) : Int) = v := by omega
    have ih := mend_ok t (elimF l v) a (elimF_lits hl) (fun u hu => hv u (by simp [hu])) (by simpa [chain] using h)
    have hm : mendF (v :: t) (l :: chain (v :: t) l) a = (mendF t (chain (v :: t) l) a).set (v.natAbs - 1) (!allB l ((mendF t (chain (v :: t) l) a).set (v.natAbs - 1) false)) := rfl
    rw [hm, chain]
    rw [← e1] at ih
    have := elim_mend (v := v.natAbs) (a := mendF t (elimF l v.natAbs :: chain t (elimF l v.natAbs)) a) hl (by omega) (by rw [mendF_len]; omega) ih
    rw [e1] at this
    exact this
end Go.Proofs.Ytecgmgidfjbamaa
