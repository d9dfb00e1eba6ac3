/- Assignments into which literals are written, plainly; what is left of clauses holds where all did. -/
import Derived.Test.YtghebbkpdldjfaaSatPlain
import Derived.Test.YtghebbkpdldjfaaGiven
namespace Go.Proofs.Ytghebbkpdldjfaa

def setL (a : List Bool) (l : Int) : List Bool := a.set (l.natAbs - 1) (decide (0 < l))
theorem setL_len (a : List Bool) (l : Int) : (setL a l).length = a.length := by simp [setL]
theorem foldl_len : ∀ (ls : List Int) (a : List Bool), (ls.foldl setL a).length = a.length
  | [], _ => rfl
  | l :: t, a => by rw [List.foldl_cons, foldl_len t, setL_len]
/-- A literal of another variable is as it was. -/
theorem litB_setL_off {a : List Bool} {l x : Int} (hl : l ≠ 0) (hx : x ≠ 0) (h1 : x ≠ l) (h2 : x ≠ -l) : litB (setL a l) x = litB a x := by
  unfold litB setL
  rw [List.getElem?_set_ne (by omega)]
theorem litB_setL_on {a : List Bool} {l : Int} (hl : l ≠ 0) (hll : l.natAbs ≤ a.length) : litB (setL a l) l = true := by
  unfold litB setL
  rw [List.getElem?_set_self (by omega)]
  simp
theorem litB_neg {a : List Bool} {x : Int} (hx : x ≠ 0) : litB a (-x) = !litB a x := by
  unfold litB
  rw [Int.natAbs_neg]
  by_cases h : 0 < x
  · have h2 : ¬ x < 0 := by omega
    simp [h, h2]
  · have h2 : x < 0 := by omega
    simp [h, h2]
theorem foldl_off {x : Int} (hx : x ≠ 0) : ∀ (ls : List Int) (a : List Bool), (∀ l ∈ ls, l ≠ 0) → x ∉ ls → -x ∉ ls → litB (ls.foldl setL a) x = litB a x
  | [], _, _, _, _ => rfl
  | l :: t, a, h0, h1, h2 => by
    rw [List.foldl_cons, foldl_off hx t _ (fun l' hl' => h0 l' (by simp [hl'])) (fun h => h1 (by simp [h])) (fun h => h2 (by simp [h]))]
    exact litB_setL_off (h0 l (by simp)) hx (fun e => h1 (by simp [e])) (fun e => h2 (by simp [e]))
theorem foldl_on : ∀ (ls : List Int) (a : List Bool), (∀ l ∈ ls, l ≠ 0 ∧ l.natAbs ≤ a.length) → ls.Pairwise (fun x y => x.natAbs ≠ y.natAbs) → ∀ x ∈ ls, litB (ls.foldl setL a) x = true
  | [], _, _, _, x, hx => by simp at hx
  | l :: t, a, h0, hp, x, hx => by
    rw [List.foldl_cons]
    have hp' := List.pairwise_cons.1 hp
    have hl := h0 l (by simp)
    have ht : ∀ l' ∈ t, l' ≠ 0 ∧ l'.natAbs ≤ (setL a l).length := fun l' hl' => by rw [setL_len]; exact h0 l' (by simp [hl'])
    rcases List.mem_cons.1 hx with rfl | hx
    · rw [foldl_off hl.1 t _ (fun l' hl' => (ht l' hl').1) (fun h => hp'.1 x h rfl) (fun h => hp'.1 _ h (by simp))]
      exact litB_setL_on hl.1 hl.2
    · exact foldl_on t _ ht hp'.2 x hx

theorem satB_given {l xs : List Int} {a b : List Bool} (hz : ∀ x ∈ xs, x ≠ 0) (hon : ∀ x ∈ l, litB b x = true) (_hlz : ∀ x ∈ l, x ≠ 0) (hoff : ∀ x, x ≠ 0 → x ∉ l → -x ∉ l → litB b x = litB a x)
    (hn : xs.any (fun y => hasB l y) = false) : satB b (leftF l xs) = satB b xs ∧ satB a (leftF l xs) = satB b (leftF l xs) := by
  have hnot : ∀ x ∈ xs, x ∉ l := fun x hx hl => by
    have := (List.any_eq_false.1 hn) x hx
    exact this (hasB_iff.2 hl)
  constructor
  · unfold satB leftF
    rw [List.any_filter]
    induction xs with
    | nil => rfl
    | cons x t ih =>
      have hn' : t.any (fun y => hasB l y) = false := by rw [List.any_cons] at hn; simp at hn; simp; exact hn.2
      rw [List.any_cons, List.any_cons, ih (fun y hy => hz y (by simp [hy])) hn' (fun y hy => hnot y (by simp [hy]))]
      congr 1
      cases hh : hasB l (-x)
      · simp
      · have h1 := hon (-x) (hasB_iff.1 hh)
        rw [litB_neg (hz x (by simp))] at h1
        simp at h1
        simp [h1]
  · unfold satB
    rw [Bool.eq_iff_iff, List.any_eq_true, List.any_eq_true]
    have key : ∀ x ∈ leftF l xs, litB b x = litB a x := fun x hx => by
      unfold leftF at hx
      rw [List.mem_filter] at hx
      refine hoff x (hz x hx.1) (hnot x hx.1) (fun h => ?_)
      have := hasB_iff.2 h
      simp [this] at hx
    constructor
    · rintro ⟨x, hx, h⟩; exact ⟨x, hx, by rw [key x hx]; exact h⟩
    · rintro ⟨x, hx, h⟩; exact ⟨x, hx, by rw [← key x hx]; exact h⟩
theorem allB_given {l : List Int} {a b : List Bool} (hon : ∀ x ∈ l, litB b x = true) (hlz : ∀ x ∈ l, x ≠ 0) (hoff : ∀ x, x ≠ 0 → x ∉ l → -x ∉ l → litB b x = litB a x) :
    ∀ xss : List (List Int), (∀ xs ∈ xss, ∀ x ∈ xs, x ≠ 0) → allB (givenF l xss) b = allB xss b ∧ allB (givenF l xss) a = allB (givenF l xss) b
  | [], _ => ⟨rfl, rfl⟩
  | xs :: t, hz => by
    obtain ⟨i1, i2⟩ := allB_given hon hlz hoff t (fun ys hy => hz ys (by simp [hy]))
    rw [givenF]
    cases hn : xs.any (fun y => hasB l y)
    · obtain ⟨j1, j2⟩ := satB_given (hz xs (by simp)) hon hlz hoff hn
      simp only [allB, List.all_cons, Bool.false_eq_true, if_false] at *
      rw [j1, i1, i2, j2, j1, i1]
      exact ⟨rfl, rfl⟩
    · simp only [if_true]
      refine ⟨?_, i2⟩
      rw [i1]
      obtain ⟨x, hx, h⟩ := List.any_eq_true.1 hn
      have : satB b xs = true := by
        unfold satB
        rw [List.any_eq_true]
        exact ⟨x, hx, hon x (hasB_iff.1 h)⟩
      simp [allB, this]

theorem givenF_rows {l : List Int} {P : List Int → Prop} (hP : ∀ xs, P xs → P (leftF l xs)) : ∀ xss : List (List Int), (∀ xs ∈ xss, P xs) → ∀ ys ∈ givenF l xss, P ys
  | [], _, ys, hy => by simp [givenF] at hy
  | xs :: t, h, ys, hy => by
    rw [givenF] at hy
    have ih := givenF_rows hP t (fun z hz => h z (by simp [hz]))
    split at hy
    · exact ih ys hy
    · rcases List.mem_cons.1 hy with rfl | hy
      · exact hP _ (h xs (by simp))
      · exact ih ys hy
theorem givenF_len (l : List Int) : ∀ xss : List (List Int), (givenF l xss).length ≤ xss.length
  | [] => by simp [givenF]
  | xs :: t => by
    have := givenF_len l t
    rw [givenF]
    split <;> simp <;> omega
theorem check_given {vars : Int} {xss : List (List Int)} (l : List Int) (h : (checkC vars xss).1 = 0) : checkC vars (givenF l xss) = (0, 0) := by
  obtain ⟨_, h0, h1, h2, h3⟩ := checkC_ok h
  refine checkC_of h0 h1 (Nat.le_trans (givenF_len l xss) h2) ?_
  refine givenF_rows (P := fun xs => xs.length ≤ 24 ∧ Lits vars xs) (fun xs ⟨p1, p2, p3⟩ => ⟨Nat.le_trans (List.length_filter_le _ _) p1, fun x hx => p2 x ((List.mem_filter.1 hx).1), p3.filter _⟩) xss h3
end Go.Proofs.Ytghebbkpdldjfaa
