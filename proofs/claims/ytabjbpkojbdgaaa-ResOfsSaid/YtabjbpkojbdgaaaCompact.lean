/- Contracts of slices.CompactFunc with cnf.Normal's closure, slices.Clip, cnf.Normal. -/
import Derived.Test.YtabjbpkojbdgaaaNormA
import Derived.Lib.SliceRun
import Derived.Deep.Upon
import Derived.Shelf.SlSortFuncK.RowK2
namespace Go.Proofs.Ytabjbpkojbdgaaa
open Go.RowKit Go.Sort
set_option linter.unusedSimpArgs false

theorem compF_snoc : ∀ (l : List (List Int)) (b a : List Int), compF (l ++ [b] ++ [a]) = if b = a then compF (l ++ [b]) else compF (l ++ [b]) ++ [a]
  | [], b, a => by
    simp only [List.nil_append, List.cons_append, compF]
    split
    · rename_i e; rw [e]
    · rfl
  | x :: l, b, a => by
    have ih := compF_snoc l b a
    obtain ⟨y, r, hy⟩ : ∃ y r, l ++ [b] = y :: r := by cases l with
      | nil => exact ⟨b, [], rfl⟩
      | cons z t => exact ⟨z, t ++ [b], rfl⟩
    rw [hy] at ih
    simp only [List.cons_append] at ih ⊢
    rw [hy]
    simp only [List.cons_append, compF]
    by_cases hxy : x = y
    · rw [if_pos hxy, if_pos hxy]
      exact ih
    · rw [if_neg hxy, if_neg hxy, ih]
      split <;> rfl
theorem compF_short {l : List (List Int)} (h : l.length < 2) : compF l = l := by
  match l, h with
  | [], _ => rfl
  | [x], _ => rfl
  | _ :: _ :: _, h => simp at h; omega
theorem compF_le (l : List (List Int)) : (compF l).length ≤ l.length := by
  match l with
  | [] => simp [compF]
  | [x] => simp [compF]
  | x :: y :: r =>
    have := compF_le (y :: r)
    rw [compF]
    split <;> simp at this ⊢ <;> omega
/-- One more: the one behind is the same as the last, or not. -/
theorem compF_take {xss : List (List Int)} {j : Nat} {x y : List Int} (hx : xss[j]? = some x) (hy : xss[j + 1]? = some y) : compF (xss.take (j + 2)) = if x = y then compF (xss.take (j + 1)) else compF (xss.take (j + 1)) ++ [y] := by
  rw [take_snoc_of hy, take_snoc_of hx]
  exact compF_snoc _ _ _

section
variable {e t : TypeId} {w : World} {base low n c g : Nat} {xss : List (List Int)}
theorem grown_setCells (w : World) (g o : Nat) (l : List Value) : w.grownBy (w.setCells g o l) (some g) :=
  ⟨World.os_setCells w g o l, by
    have : ∀ (l : List Value) (o : Nat) (w : World), (w.setCells g o l).tape = w.tape := by
      intro l
      induction l with
      | nil => intro o w; rfl
      | cons v r ih => intro o w; rw [World.setCells, ih]; rfl
    exact this l o w, World.output_setCells w g o l, by simp, fun k hk hne => World.heap_setCells_other w g o l hk (fun e => hne (by rw [e]))⟩
theorem heap_setCells (g : Nat) : ∀ (l : List Value) (o : Nat) (w : World) {cur : Array Value} {t : TypeId} {fz : Nat × Nat}, w.heap[g]? = some (.cells cur t fz) → ∃ cur' : Array Value, (w.setCells g o l).heap[g]? = some (.cells cur' t fz) ∧ cur'.size = cur.size ∧ ∀ k, k < o → cur'[k]? = cur[k]?
  | [], _, _, cur, _, _, h => ⟨cur, h, rfl, fun _ _ => rfl⟩
  | v :: r, o, w, cur, t, fz, h => by
    have h1 : (w.setCell ⟨g, o, none⟩ v).heap[g]? = some (.cells (cur.setIfInBounds o v) t fz) := by simp [World.setCell, Array.getElem?_modify, h]
    obtain ⟨cur', h2, h3, h4⟩ := heap_setCells g r (o + 1) _ h1
    refine ⟨cur', h2, by rw [h3]; simp, fun k hk => ?_⟩
    rw [h4 k (by omega), Array.getElem?_setIfInBounds_ne (by omega)]
/-- What stands from place p on is cleared: the first p stand. -/
theorem OwnP.cleared (h : OwnP e t w base low (some ⟨g, 0, none⟩) n c xss) (hlow : low ≤ base) (hne : t ≠ e) {p : Nat} (hp : p ≤ n) (l : List Value) : OwnP e t (w.setCells g p l) base low (some ⟨g, 0, none⟩) p c (xss.take p) := by
  obtain ⟨vs, h1, h2⟩ := h
  rcases h1.form with ⟨h0, _⟩ | ⟨g', cur, h0, hg, hh, hle, hcm, hsz, htk⟩
  · cases h0
  · cases h0
    obtain ⟨cur', k1, k2, k3⟩ := heap_setCells g l p w hh
    refine ⟨vs.take p, ⟨by simp [h1.len]; omega, .inr ⟨g, c, cur', rfl, hg, k1, by omega, hcm, by omega, ?_⟩⟩, (h2.take p).kept (grown_setCells w g p l) (fun g' e' => by cases e'; exact ⟨Nat.le_trans hlow hg, ⟨cur, (0, 0), hh⟩⟩) hne⟩
    apply List.ext_getElem?
    intro k
    by_cases hk : k < p
    · have e1 : (vs.take p)[k]? = vs[k]? := List.getElem?_take_of_lt hk
      rw [List.getElem?_take_of_lt (by simpa using hk), e1, ← htk, List.getElem?_take_of_lt (by omega), Array.getElem?_toList, Array.getElem?_toList, k3 k hk]
    · rw [List.getElem?_eq_none (by simp; omega), List.getElem?_eq_none (by simp; omega)]
/-- A row is stored at place p. -/
theorem OwnP.put {A' : Option Addr} {n' c' : Nat} {xs : List Int} (h : OwnP e t w base low (some ⟨g, 0, none⟩) n c xss) (hlow : low ≤ base) (hne : t ≠ e) {p : Nat} (hp : p < n) (hi : Ints w A' n' c' xs) (ha : Away t w low A' n') :
    OwnP e t (w.setCell ⟨g, p, none⟩ (.slice A' n' c')) base low (some ⟨g, 0, none⟩) n c (xss.set p xs) := by
  obtain ⟨vs, h1, h2⟩ := h
  have h3 : RowsP t w low (vs.set p (.slice A' n' c')) (xss.set p xs) := by
    refine ⟨by simp [h2.1], fun k v hv => ?_⟩
    by_cases hk : p = k
    · subst hk
      have hl : p < vs.length := by rw [h1.len]; exact hp
      rw [List.getElem?_set_self hl] at hv
      cases hv
      exact ⟨A', n', c', xs, rfl, List.getElem?_set_self (by rw [← h2.1]; exact hl), hi, ha⟩
    · rw [List.getElem?_set_ne hk] at hv
      obtain ⟨B, m, d, ys, e1, hx, r⟩ := h2.2 k v hv
      exact ⟨B, m, d, ys, e1, by rw [List.getElem?_set_ne hk]; exact hx, r⟩
  exact ⟨_, h1.set_ p _, h3.kept (h1.grown_set p _) (own_rows h1 hlow) hne⟩
end
theorem OwnP.len' {e t : TypeId} {w : World} {base low n c : Nat} {A : Option Addr} {xss : List (List Int)} (h : OwnP e t w base low A n c xss) : xss.length = n ∧ n ≤ c ∧ c ≤ 9223372036854775807 := by
  have h1 := h.grid.bd
  exact ⟨h.len, h1.1, h1.2⟩

end Go.Proofs.Ytabjbpkojbdgaaa
