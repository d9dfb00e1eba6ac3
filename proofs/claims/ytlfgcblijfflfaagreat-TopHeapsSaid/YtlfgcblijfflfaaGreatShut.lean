/- What is closed under propagation; who asked what a trail has without a reason. -/
import Derived.Test.YtlfgcblijfflfaaGreatTaughtPlain
namespace Go.Proofs.YtlfgcblijfflfaaGreat

/-- Closed under propagation. -/
def Shut (xss : List (List Int)) (S : Int → Prop) : Prop := ∀ c ∈ xss, ∀ x ∈ c, (∀ l ∈ c, l ≠ x → S (-l)) → S x
theorem shut_run {xss : List (List Int)} {s : List Int} (hz : ∀ c ∈ xss, (0 : Int) ∉ c) (hs : ∀ c ∈ xss, falB s 0 c = false ∧ mustF s c c = 0) : Shut xss (fun x => x ∈ s) := by
  intro c hc x hx h
  obtain ⟨hs1, hs2⟩ := hs c hc
  by_cases hxs : x ∈ s
  · exact hxs
  · exfalso
    have hx0 : x ≠ 0 := fun e => hz c hc (e ▸ hx)
    by_cases hnx : -x ∈ s
    · rw [Bool.eq_false_iff] at hs1
      refine hs1 (falB_iff.2 fun l hl _ => ?_)
      by_cases e : l = x
      · rw [e]; exact hnx
      · exact h l hl e
    · have hf : falB s x c = true := falB_iff.2 fun l hl hne => h l hl hne
      have hfind : ∀ q : List Int, (∀ l ∈ q, l ∈ c) → x ∈ q → mustF s c q = x := by
        intro q
        induction q with
        | nil => intro _ h; simp at h
        | cons l r ih =>
          intro hq hxq
          rw [mustF]
          by_cases e : l = x
          · subst e
            simp [hasB_false.2 hxs, hasB_false.2 hnx, hf]
          · have : -l ∈ s := h l (hq l (by simp)) e
            simp only [hasB_iff.2 this, Bool.not_true, Bool.and_false, Bool.false_eq_true, if_false]
            refine ih (fun l' h' => hq l' (by simp [h'])) ?_
            rcases List.mem_cons.1 hxq with h | h
            · exact absurd h.symm e
            · exact h
      have := hfind c (fun _ h => h) hx
      rw [hs2] at this
      exact hx0 this.symm
theorem lit_not {a : List Bool} {x : Int} (h0 : x ≠ 0) (h : litB a x = true) : litB a (-x) = false := by
  unfold litB at h ⊢
  rw [Int.natAbs_neg]
  by_cases hp : 0 < x
  · have h2 : ¬ x < 0 := by omega
    simp [hp, h2] at h ⊢
    exact h
  · have h2 : x < 0 := by omega
    simp [hp, h2] at h ⊢
    exact h
theorem shut_model {xss : List (List Int)} {a : List Bool} (hz : ∀ c ∈ xss, (0 : Int) ∉ c) (ha : allB xss a = true) : Shut xss (fun x => litB a x = true) := by
  intro c hc x hx h
  obtain ⟨l, hl, hl'⟩ := List.any_eq_true.1 ((List.all_eq_true.1 ha) c hc)
  by_cases e : l = x
  · rw [← e]; exact hl'
  · have := lit_not (fun e => hz c hc (e ▸ hl)) hl'
    rw [h l hl e] at this
    cases this

/-- A literal without a reason was asked. -/
theorem runF_y {xss : List (List Int)} (q : List Int) : ∀ (k : Nat) (t y : List Int), y.length = t.length → (∀ (i : Nat) (x : Int), y[i]? = some (-1) → t[i]? = some x → x ∈ q) → ∀ (i : Nat) (x : Int), (runF xss k t y).2.1[i]? = some (-1) → (runF xss k t y).1[i]? = some x → x ∈ q
  | 0, t, y, _, h => h
  | k + 1, t, y, hl, h => by
    rw [runF]
    by_cases h1 : 0 ≤ firF t xss 0
    · rw [if_pos h1]; exact h
    · rw [if_neg h1]
      by_cases h2 : uniF t xss 0 < 0
      · rw [if_pos h2]; exact h
      · rw [if_neg h2]
        refine runF_y q k _ _ (by simp [hl]) fun i x g1 g2 => ?_
        by_cases hi : i < t.length
        · rw [List.getElem?_append_left (by omega)] at g1
          rw [List.getElem?_append_left hi] at g2
          exact h i x g1 g2
        · have hi2 : i < (y ++ [uniF t xss 0]).length := (List.getElem?_eq_some_iff.1 g1).1
          simp at hi2
          have e : i = y.length := by omega
          subst e
          rw [List.getElem?_concat_length] at g1
          injection g1 with g1
          omega
theorem runF_len {xss : List (List Int)} : ∀ (k : Nat) (t y : List Int), y.length = t.length → (runF xss k t y).2.1.length = (runF xss k t y).1.length
  | 0, t, y, h => h
  | k + 1, t, y, h => by
    rw [runF]
    by_cases h1 : 0 ≤ firF t xss 0
    · rw [if_pos h1]; exact h
    · rw [if_neg h1]
      by_cases h2 : uniF t xss 0 < 0
      · rw [if_pos h2]; exact h
      · rw [if_neg h2]
        exact runF_len k _ _ (by simp [h])
end Go.Proofs.YtlfgcblijfflfaaGreat
