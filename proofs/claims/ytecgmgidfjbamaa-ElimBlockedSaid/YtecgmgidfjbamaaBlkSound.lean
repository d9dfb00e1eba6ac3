/- A blocked clause can be mended: setting a blocking literal makes the whole formula hold. -/
import Derived.Test.YtecgmgidfjbamaaBlkPlain
namespace Go.Proofs.Ytecgmgidfjbamaa

theorem litB_neg {a : List Bool} {y : Int} (h : y ≠ 0) : litB a (-y) = !litB a y := by
  unfold litB
  rw [Int.natAbs_neg]
  have : decide (0 < -y) = !decide (0 < y) := by
    by_cases h0 : 0 < y
    · rw [decide_eq_true h0, decide_eq_false (by omega)]; rfl
    · rw [decide_eq_false h0, decide_eq_true (by omega)]; rfl
  rw [this]
  cases (a[y.natAbs - 1]?.getD false) <;> cases decide (0 < y) <;> rfl
theorem litB_set_own {a : List Bool} {l : Int} (h0 : l ≠ 0) (h1 : l.natAbs ≤ a.length) : litB (a.set (l.natAbs - 1) (decide (0 < l))) l = true := by
  unfold litB
  rw [List.getElem?_set_self (by omega)]
  simp
theorem litB_set_other {a : List Bool} {l y : Int} {q : Bool} (h0 : l ≠ 0) (h1 : y ≠ 0) (h : y.natAbs ≠ l.natAbs) : litB (a.set (l.natAbs - 1) q) y = litB a y := by
  unfold litB
  rw [List.getElem?_set_ne (by omega)]
theorem satB_false {a : List Bool} {xs : List Int} (h : satB a xs = false) {y : Int} (hy : y ∈ xs) : litB a y = false := by
  unfold satB at h
  rw [List.any_eq_false] at h
  simpa using h y hy
/-- What a blocking literal is. -/
theorem blk_mem {xss : List (List Int)} {ci : List Int} {l : Int} (h : l ∈ blkF xss ci) : l ∈ ci ∧ ∀ x ∈ xss, -l ∈ x → ∃ y ∈ ci, y ≠ l ∧ -y ∈ x := by
  unfold blkF at h
  rw [List.mem_filter] at h
  refine ⟨sortF_mem.1 h.1, fun x hx hlx => ?_⟩
  have h2 := h.2
  rw [Bool.not_eq_true', List.any_eq_false] at h2
  have h3 := h2 x hx
  unfold opnB at h3
  have hh : hasB x (-l) = true := hasB_iff.2 hlx
  rw [hh, Bool.true_and] at h3
  have h4 : ci.any (fun y => y != l && hasB x (-y)) = true := by
    cases hc : ci.any (fun y => y != l && hasB x (-y))
    · rw [hc] at h3; simp at h3
    · rfl
  obtain ⟨y, hy, hy2⟩ := List.any_eq_true.1 h4
  rw [Bool.and_eq_true] at hy2
  exact ⟨y, hy, by simpa using hy2.1, hasB_iff.1 hy2.2⟩
theorem blk_flip {m : Nat} {xss : List (List Int)} {ci : List Int} {a : List Bool} {l : Int} (ha : a.length = m) (hx : ∀ x ∈ xss, InLits m x) (hc : InLits m ci) (hl : l ∈ blkF xss ci)
    (hrest : ∀ x ∈ xss, x ≠ ci → satB a x = true) (hns : satB a ci = false) : allB xss (a.set (l.natAbs - 1) (decide (0 < l))) = true := by
  obtain ⟨hlc, hblk⟩ := blk_mem hl
  have l0 := hc l hlc
  have own := litB_set_own (a := a) l0.1 (by omega)
  unfold allB
  rw [List.all_eq_true]
  intro x hxm
  unfold satB
  rw [List.any_eq_true]
  by_cases hxc : x = ci
  · subst hxc; exact ⟨l, hlc, own⟩
  · by_cases hnl : -l ∈ x
    · obtain ⟨y, hy, hyl, hyx⟩ := hblk x hxm hnl
      have y0 := hc y hy
      have fy := satB_false hns hy
      have fl := satB_false hns hlc
      have hab : y.natAbs ≠ l.natAbs := by
        intro e
        have : y = -l := by omega
        rw [this, litB_neg l0.1, fl] at fy
        simp at fy
      refine ⟨-y, hyx, ?_⟩
      rw [litB_set_other l0.1 (by omega) (by rw [Int.natAbs_neg]; exact hab), litB_neg y0.1, fy]
      rfl
    · have hs := hrest x hxm hxc
      unfold satB at hs
      obtain ⟨y, hy, hty⟩ := List.any_eq_true.1 hs
      refine ⟨y, hy, ?_⟩
      by_cases hab : y.natAbs = l.natAbs
      · have : y = l := by
          have hne : y ≠ -l := fun e => hnl (e ▸ hy)
          omega
        rw [this]; exact own
      · rw [litB_set_other l0.1 (hx x hxm y hy).1 hab]; exact hty
/-- The formula without its k-th clause. -/
theorem rest_sat {xss : List (List Int)} {k : Nat} {ci : List Int} {a : List Bool} (hk : xss[k]? = some ci) (h : allB (xss.take k ++ xss.drop (k + 1)) a = true) : ∀ x ∈ xss, x ≠ ci → satB a x = true := by
  intro x hx hne
  unfold allB at h
  rw [List.all_eq_true] at h
  refine h x ?_
  obtain ⟨j, hj⟩ := List.mem_iff_getElem?.1 hx
  rcases Nat.lt_trichotomy j k with hjk | hjk | hjk
  · exact List.mem_append.2 (.inl (List.mem_iff_getElem?.2 ⟨j, by rw [List.getElem?_take, if_pos hjk]; exact hj⟩))
  · subst hjk; rw [hk] at hj; cases hj; exact absurd rfl hne
  · exact List.mem_append.2 (.inr (List.mem_iff_getElem?.2 ⟨j - (k + 1), by rw [List.getElem?_drop]; rw [show k + 1 + (j - (k + 1)) = j by omega]; exact hj⟩))
end Go.Proofs.Ytecgmgidfjbamaa
