/- The plain law on pure literals: with all of them so, what held holds. -/
import Derived.Test.YtehhhidjgngibaaPure
import Derived.Test.YtehhhidjgngibaaSatPlain
namespace Go.Proofs.Ytehhhidjgngibaa

def setL (a : List Bool) (l : Int) : List Bool := a.set (l.natAbs - 1) (decide (0 < l))
theorem litB_setL {a : List Bool} {l x : Int} (hl : l ≠ 0) (hll : l.natAbs ≤ a.length) (hx : x ≠ 0) (hne : x ≠ -l) (h : litB a x = true) : litB (setL a l) x = true := by
  unfold litB setL at *
  by_cases he : l.natAbs - 1 = x.natAbs - 1
  · have hxl : x = l := by omega
    subst hxl
    rw [List.getElem?_set_self (by omega)]
    simp
  · rw [List.getElem?_set_ne he]
    exact h
theorem setL_len (a : List Bool) (l : Int) : (setL a l).length = a.length := by simp [setL]
theorem foldl_setL {zs : List Int} (hz : ∀ x ∈ zs, x ≠ 0) : ∀ (ls : List Int) (a : List Bool), (∀ l ∈ ls, l ≠ 0 ∧ l.natAbs ≤ a.length ∧ hasB zs (-l) = false) → ∀ x ∈ zs, litB a x = true → litB (ls.foldl setL a) x = true
  | [], _, _, _, _, h => h
  | l :: t, a, hl, x, hx, h => by
    obtain ⟨h1, h2, h3⟩ := hl l (by simp)
    refine foldl_setL hz t (setL a l) (fun l' hl' => ?_) x hx (litB_setL h1 h2 (hz x hx) ?_ h)
    · rw [setL_len]; exact hl l' (by simp [hl'])
    · rintro rfl
      have : hasB zs (-l) = true := hasB_iff.2 hx
      rw [h3] at this
      cases this
theorem allB_setL {xss : List (List Int)} (hz : ∀ xs ∈ xss, ∀ x ∈ xs, x ≠ 0) (ls : List Int) (a : List Bool) (hl : ∀ l ∈ ls, l ≠ 0 ∧ l.natAbs ≤ a.length ∧ hasB xss.flatten (-l) = false) (h : allB xss a = true) : allB xss (ls.foldl setL a) = true := by
  unfold allB at *
  rw [List.all_eq_true] at *
  intro xs hxs
  have := h xs hxs
  unfold satB at *
  rw [List.any_eq_true] at *
  obtain ⟨x, hx, hlx⟩ := this
  refine ⟨x, hx, foldl_setL (zs := xss.flatten) (fun y hy => ?_) ls a hl x (List.mem_flatten.2 ⟨xs, hxs, hx⟩) hlx⟩
  obtain ⟨ys, h1, h2⟩ := List.mem_flatten.1 hy
  exact hz ys h1 y h2
theorem candF_mem : ∀ (m : Nat) (v : Int), 0 < v → ∀ y ∈ candF m v, y ≠ 0 ∧ y.natAbs < v.toNat + m
  | 0, _, _, y, hy => by simp [candF] at hy
  | m + 1, v, hv, y, hy => by
    simp only [candF, List.mem_cons] at hy
    rcases hy with rfl | rfl | hy
    · omega
    · omega
    · have := candF_mem m (v + 1) (by omega) y hy
      omega
theorem pureF_mem {vars : Int} {xss : List (List Int)} {y : Int} (h : y ∈ pureF vars xss) : y ≠ 0 ∧ y.natAbs ≤ vars.toNat ∧ hasB xss.flatten (-y) = false := by
  unfold pureF at h
  rw [List.mem_filter] at h
  obtain ⟨h1, h2⟩ := h
  have h3 := candF_mem _ _ (by omega) y h1
  refine ⟨h3.1, by omega, ?_⟩
  simp [purB] at h2
  exact h2.2
end Go.Proofs.Ytehhhidjgngibaa
