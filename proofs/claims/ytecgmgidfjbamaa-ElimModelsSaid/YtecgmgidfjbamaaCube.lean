/- Slices of slices of rows of the call's own (the stages of elim). -/
import Derived.Test.YtecgmgidfjbamaaNormal
namespace Go.Proofs.Ytecgmgidfjbamaa
open Go.RowKit

theorem grid_info : (Try.prog.info? 22).map (fun i => (i.zero, i.size, i.bytes)) = some (some (.slice none 0 0), 1, 24) := by kernel_rfl
theorem int_ne_grid : (3 : TypeId) ≠ 22 := by decide
theorem row_ne_grid : (26 : TypeId) ≠ 22 := by decide
/-- A block of a third element type grows, or none. -/
theorem OwnP.typed {e t t' : TypeId} {w w' : World} {base n c : Nat} {A : Option Addr} {row : Option Nat} {xss : List (List Int)} (h : OwnP e t w base 0 A n c xss) (hg : w.grownBy w' row) (hr : ∀ g, row = some g → Typed t' w g) (h1 : t ≠ t') (h2 : e ≠ t') : OwnP e t w' base 0 A n c xss := by
  obtain ⟨vs, q1, q2⟩ := h
  refine ⟨vs, q1.kept hg ?_, q2.kept hg (fun g e' => ⟨Nat.zero_le _, hr g e'⟩) h1⟩
  cases row with
  | none => cases blockOf A <;> simp
  | some g => exact q1.ne_typed (hr g rfl) h2
/-- Its cells are slices of rows of the call's own that read as css. -/
def CubeP (w : World) (base : Nat) (vs : List Value) (css : List (List (List Int))) : Prop :=
  vs.length = css.length ∧ ∀ (k : Nat) (v : Value), vs[k]? = some v → ∃ (A' : Option Addr) (n' c' : Nat) (xss : List (List Int)), v = Value.slice A' n' c' ∧ css[k]? = some xss ∧ OwnP 26 3 w base 0 A' n' c' xss
theorem CubeP.keep {w w' : World} {base : Nat} {vs : List Value} {css : List (List (List Int))} (h : CubeP w base vs css) (hb : Below w.heap.size w w') : CubeP w' base vs css := by
  refine ⟨h.1, fun k v hv => ?_⟩
  obtain ⟨A', n', c', xss, e1, hx, ho⟩ := h.2 k v hv
  exact ⟨A', n', c', xss, e1, hx, ho.keep hb⟩
theorem CubeP.kept {w w' : World} {base : Nat} {row : Option Nat} {vs : List Value} {css : List (List (List Int))} (h : CubeP w base vs css) (hg : w.grownBy w' row) (hr : ∀ g, row = some g → Typed 22 w g) : CubeP w' base vs css := by
  refine ⟨h.1, fun k v hv => ?_⟩
  obtain ⟨A', n', c', xss, e1, hx, ho⟩ := h.2 k v hv
  exact ⟨A', n', c', xss, e1, hx, ho.typed hg hr int_ne_grid row_ne_grid⟩
theorem CubeP.snoc {w : World} {base n c : Nat} {A : Option Addr} {vs : List Value} {css : List (List (List Int))} {xss : List (List Int)} (h : CubeP w base vs css) (ho : OwnP 26 3 w base 0 A n c xss) : CubeP w base (vs ++ [Value.slice A n c]) (css ++ [xss]) := by
  refine ⟨by simp [h.1], fun k v hv => ?_⟩
  have := h.1
  rcases Nat.lt_or_ge k vs.length with hk | hk
  · rw [List.getElem?_append_left hk] at hv
    obtain ⟨B, m, d, ys, e1, hx, r⟩ := h.2 k v hv
    exact ⟨B, m, d, ys, e1, by rw [List.getElem?_append_left (by omega)]; exact hx, r⟩
  · rw [List.getElem?_append_right hk] at hv
    have hk0 : k - vs.length = 0 := by
      rcases Nat.eq_zero_or_pos (k - vs.length) with h0 | h0
      · exact h0
      · rw [List.getElem?_eq_none (by simp; omega)] at hv; cases hv
    rw [hk0] at hv
    simp at hv
    subst hv
    exact ⟨A, n, c, xss, rfl, by rw [List.getElem?_append_right (by omega), show k - css.length = 0 by omega]; rfl, ho⟩
/-- A slice of slices of rows, all of the call's own. -/
def OwnQ (w : World) (base : Nat) (A : Option Addr) (n c : Nat) (css : List (List (List Int))) : Prop := ∃ vs : List Value, Own 22 w base A n c vs ∧ CubeP w base vs css
section
variable {w w' : World} {base n c : Nat} {A : Option Addr} {css : List (List (List Int))}
theorem OwnQ.len (h : OwnQ w base A n c css) : css.length = n ∧ n ≤ c ∧ c ≤ 9223372036854775807 := by
  obtain ⟨vs, h1, h2⟩ := h
  have h3 := h1.sl.le
  have h4 := h1.sl.cap
  unfold maxLen at h4
  exact ⟨by rw [← h2.1, h1.len], h3, h4⟩
theorem OwnQ.keep (h : OwnQ w base A n c css) (hb : Below w.heap.size w w') : OwnQ w' base A n c css := by
  obtain ⟨vs, h1, h2⟩ := h
  exact ⟨vs, h1.keep hb, h2.keep hb⟩
theorem OwnQ.push {A2 A' : Option Addr} {c2 n' c' : Nat} {xss : List (List Int)} {vs : List Value} (h1 : Own 22 w base A n c vs) (h2 : CubeP w base vs css) (ho : OwnP 26 3 w base 0 A' n' c' xss) (hw : Own 22 w' base A2 (n + 1) c2 (vs ++ [Value.slice A' n' c'])) (hg : w.grownBy w' (blockOf A)) : OwnQ w' base A2 (n + 1) c2 (css ++ [xss]) :=
  ⟨_, hw, (h2.snoc ho).kept hg (fun g e => (own_rows h1 (Nat.zero_le _) g e).2)⟩
theorem OwnQ.round (h : OwnQ w base A n c css) {k : Nat} (hk : k < n) : ∃ g A' n' c' xss, A = some ⟨g, 0, none⟩ ∧ base ≤ g ∧ g < w.heap.size ∧ w.cell? ⟨g, k, none⟩ = some (.slice A' n' c') ∧ OwnP 26 3 w base 0 A' n' c' xss ∧ Hid (css[k]? = some xss) := by
  obtain ⟨vs, h1, h2⟩ := h
  obtain ⟨g, u, e1, hg, hlt, hc, _, hu⟩ := h1.at_ hk
  obtain ⟨A', n', c', xss, e2, hx, ho⟩ := h2.2 k u hu.out
  subst e2
  exact ⟨g, A', n', c', xss, e1, hg, hlt, hc, ho, hx⟩
/-- One alone: a new block of one cell. -/
theorem ownQ_one {A' : Option Addr} {n' c' b : Nat} {xss : List (List Int)} (hb : b = w.heap.size) (hB : base ≤ w.heap.size) (ho : OwnP 26 3 w base 0 A' n' c' xss) : OwnQ (w.alloc (.cells #[.slice A' n' c'] 22)) base (some ⟨b, 0, none⟩) 1 1 [xss] := by
  refine ⟨[.slice A' n' c'], own_new 22 w base [.slice A' n' c'] hb hB (by simp [maxLen]), rfl, fun k v hv => ?_⟩
  match k, hv with
  | 0, hv =>
    simp at hv
    subst hv
    exact ⟨_, _, _, _, rfl, rfl, ho.keep (below_new _ _)⟩
  | k + 1, hv => simp at hv
end

/-- Both tell when clauses are too many or too wide. -/
theorem much_iff {vars : Int} {l : List (List Int)} (v0 : 0 ≤ vars) (v1 : vars ≤ 120) (hl : ∀ x ∈ l, Lits vars x) : (checkC vars l).1 = 0 ↔ (decide (400 < l.length) || l.any (fun x => decide (24 < x.length))) = false := by
  constructor
  · intro h
    obtain ⟨_, _, _, h1, h2⟩ := checkC_ok h
    rw [Bool.or_eq_false_iff]
    refine ⟨by simp; omega, ?_⟩
    rw [List.any_eq_false]
    intro x hx
    have := (h2 x hx).1
    simp
    omega
  · intro h
    rw [Bool.or_eq_false_iff, List.any_eq_false] at h
    obtain ⟨h1, h2⟩ := h
    rw [checkC_of v0 v1 (by simpa using h1) (fun x hx => ⟨by have := h2 x hx; simpa using this, hl x hx⟩)]
end Go.Proofs.Ytecgmgidfjbamaa
