/- Learnt clauses that are kept, plainly; no program in sight. -/
import Derived.Test.YtplbiepfdfoglaaSortPlain
import Derived.Sort.Statements
namespace Go.Proofs.Ytplbiepfdfoglaa
open Go.Sort

/-- Does clause a stand ahead of clause b? -/
def betB (gs ss : List Int) (a b : Nat) : Bool :=
  if gs.getD a 0 ≠ gs.getD b 0 then decide (gs.getD a 0 < gs.getD b 0) else if ss.getD a 0 ≠ ss.getD b 0 then decide (ss.getD a 0 < ss.getD b 0) else decide (b < a)
theorem betB_iff {gs ss : List Int} {a b : Nat} : betB gs ss a b = true ↔ gs.getD a 0 < gs.getD b 0 ∨ (gs.getD a 0 = gs.getD b 0 ∧ (ss.getD a 0 < ss.getD b 0 ∨ (ss.getD a 0 = ss.getD b 0 ∧ b < a))) := by
  unfold betB
  by_cases h1 : gs.getD a 0 = gs.getD b 0
  · by_cases h2 : ss.getD a 0 = ss.getD b 0
    · rw [if_neg (by simpa using h1), if_neg (by simpa using h2), decide_eq_true_iff]; omega
    · rw [if_neg (by simpa using h1), if_pos (by simpa using h2), decide_eq_true_iff]; omega
  · rw [if_pos (by simpa using h1), decide_eq_true_iff]; omega
theorem betB_false {gs ss : List Int} {a b : Nat} : betB gs ss a b = false ↔ ¬ (gs.getD a 0 < gs.getD b 0 ∨ (gs.getD a 0 = gs.getD b 0 ∧ (ss.getD a 0 < ss.getD b 0 ∨ (ss.getD a 0 = ss.getD b 0 ∧ b < a)))) := by
  rw [Bool.eq_false_iff, Ne, betB_iff]
theorem betB_or {gs ss : List Int} {a b : Nat} (h : a ≠ b) : betB gs ss a b = false → betB gs ss b a = true := by
  rw [betB_false, betB_iff]; omega
theorem betB_anti {gs ss : List Int} {a b : Nat} : betB gs ss a b = true → betB gs ss b a = false := by
  rw [betB_false, betB_iff]; omega
/-- How many of l stand ahead of i. -/
def cntF (gs ss : List Int) (i : Nat) (l : List Nat) : Nat := l.countP (fun j => betB gs ss j i)
/-- Is i kept? -/
def keepB (gs ss : List Int) (n : Nat) (many : Int) (i : Nat) : Bool := decide ((cntF gs ss i (List.range n) : Int) < many) || decide (gs.getD i 0 ≤ 2)
/-- What is kept, in order. -/
def keptF (gs ss : List Int) (many : Int) : List Nat := (List.range gs.length).filter (keepB gs ss gs.length many)
/-- What the program keeps of clauses in order; r: the place of the first. -/
def outF (gs : List Int) (many : Int) : List Nat → Nat → List Nat
  | [], _ => []
  | i :: t, r => (if decide ((r : Int) < many) || decide (gs.getD i 0 ≤ 2) then [i] else []) ++ outF gs many t (r + 1)
/-- In order: none stands ahead of one before it. -/
theorem outF_eq {gs ss : List Int} {n : Nat} {many : Int} {L : List Nat} (hp : L.Perm (List.range n)) (hs : L.Pairwise (fun a b => betB gs ss b a = false)) :
    ∀ (pre rest : List Nat), L = pre ++ rest → outF gs many rest pre.length = rest.filter (keepB gs ss n many)
  | pre, [], _ => rfl
  | pre, i :: t, hL => by
    have hc : cntF gs ss i (List.range n) = pre.length := by
      unfold cntF
      rw [← hp.countP_eq, hL, List.countP_append]
      rw [hL] at hs hp
      have hnd : (pre ++ i :: t).Nodup := hp.nodup_iff.2 List.nodup_range
      obtain ⟨h1, h2, h3⟩ := List.pairwise_append.1 hs
      obtain ⟨n1, n2, n3⟩ := List.nodup_append.1 hnd
      have e1 : pre.countP (fun j => betB gs ss j i) = pre.length := by
        rw [List.countP_eq_length]
        intro a ha
        exact betB_or (fun e => n3 a ha i (by simp) e.symm) (h3 a ha i (by simp))
      have e2 : (i :: t).countP (fun j => betB gs ss j i) = 0 := by
        rw [List.countP_eq_zero]
        intro a ha
        rcases List.mem_cons.1 ha with rfl | ha
        · have : betB gs ss a a = false := by rw [betB_false]; omega
          simp [this]
        · have := (List.pairwise_cons.1 h2).1 a ha
          simp [this]
      rw [e1, e2]; rfl
    have ih := outF_eq (many := many) hp hs (pre ++ [i]) t (by rw [hL]; simp)
    rw [outF]
    have hlen : (pre ++ [i]).length = pre.length + 1 := by simp
    rw [hlen] at ih
    rw [ih, List.filter_cons]
    unfold keepB
    rw [hc]
    split <;> simp_all
/-- Sorted as numbers, what the program keeps is what is kept. -/
theorem outF_sorted {gs ss : List Int} {many : Int} {L M : List Nat} (hp : L.Perm (List.range gs.length)) (hs : L.Pairwise (fun a b => betB gs ss b a = false)) (hM : M.Perm (outF gs many L 0)) (hMs : M.Pairwise (· ≤ ·)) : M = keptF gs ss many := by
  have h1 : outF gs many L 0 = L.filter (keepB gs ss gs.length many) := outF_eq hp hs [] L rfl
  rw [h1] at hM
  have h2 : M.Perm (keptF gs ss many) := hM.trans (hp.filter _)
  have h3 : (keptF gs ss many).Pairwise (· ≤ ·) := (List.pairwise_le_range (n := gs.length)).filter _
  exact List.Perm.eq_of_pairwise (le := fun a b => a ≤ b) (fun _ _ _ _ h1 h2 => Nat.le_antisymm h1 h2) hMs h3 h2
end Go.Proofs.Ytplbiepfdfoglaa
