/- Slices of slices of the call's own whose rows may have come in; no program in sight. -/
import Derived.Test.YtlfgcblijfflfaaGreatBoxes
namespace Go.Proofs.YtlfgcblijfflfaaGreat
open Go.RowKit

/-- The block of a row that is not empty lies below 'low', or is one of element type t. -/
def Away (t : TypeId) (w : World) (low : Nat) (A : Option Addr) (n : Nat) : Prop := 0 < n → Apart t w low A
theorem Away.keep {t : TypeId} {w w' : World} {low n : Nat} {A : Option Addr} (h : Away t w low A n) (hb : Below w.heap.size w w') : Away t w' low A n := fun hn => (h hn).keep hb
theorem Away.old {t : TypeId} {w : World} {A : Option Addr} {n c low : Nat} {xs : List Int} (h : Ints w A n c xs) (hl : w.heap.size ≤ low) : Away t w low A n := fun hn a ha => by
  obtain ⟨b, off, e, hlt, _⟩ := h.sl.at_ hn
  rw [e] at ha
  cases ha
  exact .inl (Nat.lt_of_lt_of_le hlt hl)
theorem Away.own {t : TypeId} {w : World} {A : Option Addr} {n c low base : Nat} {xs : List Value} (h : Own t w base A n c xs) : Away t w low A n := fun _ => Apart.of_own h
theorem Ints.kept0 {w w' : World} {A : Option Addr} {n c : Nat} {xs : List Int} {row : Option Nat} (h : Ints w A n c xs) (hg : w.grownBy w' row) (hne : 0 < n → blockOf A = none ∨ blockOf A ≠ row) : Ints w' A n c xs := by
  refine ⟨⟨h.sl.len, h.sl.le, h.sl.cap, fun hn => ?_⟩, h.wf⟩
  obtain ⟨b, off, rfl, hlt, hc⟩ := h.sl.at_ hn
  have hne := hne hn
  refine ⟨b, off, rfl, Nat.lt_of_lt_of_le hlt hg.size, fun k hk => ?_⟩
  rw [World.cell?_of_block (w := w) (w' := w') (a := ⟨b, off + k, none⟩) (hg.block b hlt (by simp [blockOf] at hne; exact hne)), hc k hk]
/-- Its cells are slices that read as the rows xss, each away. -/
def RowsP (t : TypeId) (w : World) (low : Nat) (vs : List Value) (xss : List (List Int)) : Prop :=
  vs.length = xss.length ∧ ∀ (k : Nat) (v : Value), vs[k]? = some v → ∃ (A' : Option Addr) (n' c' : Nat) (xs : List Int), v = Value.slice A' n' c' ∧ xss[k]? = some xs ∧ Ints w A' n' c' xs ∧ Away t w low A' n'
theorem RowsP.keep {t : TypeId} {w w' : World} {low : Nat} {vs : List Value} {xss : List (List Int)} (h : RowsP t w low vs xss) (hb : Below w.heap.size w w') : RowsP t w' low vs xss := by
  refine ⟨h.1, fun k v hv => ?_⟩
  obtain ⟨A', n', c', xs, e1, hx, hi, ha⟩ := h.2 k v hv
  exact ⟨A', n', c', xs, e1, hx, hi.keep hb, ha.keep hb⟩
/-- A block from 'low' on of another element type is written, or none. -/
theorem RowsP.kept {t t' : TypeId} {w w' : World} {low : Nat} {row : Option Nat} {vs : List Value} {xss : List (List Int)} (h : RowsP t w low vs xss) (hg : w.grownBy w' row) (hr : ∀ g, row = some g → low ≤ g ∧ Typed t' w g) (hne : t ≠ t') : RowsP t w' low vs xss := by
  refine ⟨h.1, fun k v hv => ?_⟩
  obtain ⟨A', n', c', xs, e1, hx, hi, ha⟩ := h.2 k v hv
  have hh : 0 < n' → blockOf A' = none ∨ blockOf A' ≠ row := fun hn => by
    cases row with
    | none => cases blockOf A' <;> simp
    | some g => exact (ha hn).ne (hr g rfl).1 (hr g rfl).2 hne
  exact ⟨A', n', c', xs, e1, hx, hi.kept0 hg hh, fun hn => (ha hn).kept hg (hh hn)⟩
theorem RowsP.snoc {t : TypeId} {w : World} {low n c : Nat} {vs : List Value} {xss : List (List Int)} {A : Option Addr} {xs : List Int} (h : RowsP t w low vs xss) (hi : Ints w A n c xs) (ha : Away t w low A n) : RowsP t w low (vs ++ [Value.slice A n c]) (xss ++ [xs]) := by
  refine ⟨by simp [h.1], fun k v hv => ?_⟩
  rcases Nat.lt_or_ge k vs.length with hk | hk
  · rw [List.getElem?_append_left hk] at hv
    obtain ⟨B, m, d, ys, e1, hx, hi', ha'⟩ := h.2 k v hv
    exact ⟨B, m, d, ys, e1, by rw [List.getElem?_append_left (by rw [← h.1]; exact hk)]; exact hx, hi', ha'⟩
  · rw [List.getElem?_append_right hk] at hv
    have hk0 : k - vs.length = 0 := by
      rcases Nat.eq_zero_or_pos (k - vs.length) with h0 | h0
      · exact h0
      · rw [List.getElem?_eq_none (by simp; omega)] at hv; cases hv
    rw [hk0] at hv
    simp at hv
    subst hv
    refine ⟨A, n, c, xs, rfl, ?_, hi, ha⟩
    have := h.1
    rw [List.getElem?_append_right (by omega), show k - xss.length = 0 by omega]
    rfl
theorem RowsP.one {t : TypeId} {w : World} {low : Nat} {vs : List Value} {xss : List (List Int)} (h : RowsP t w low vs xss) : ∀ u ∈ vs, u.oneCell' = true := fun u hu => by
  obtain ⟨k, hk, rfl⟩ := List.getElem_of_mem hu
  obtain ⟨A', n', c', xs, e1, _⟩ := h.2 k _ (List.getElem?_eq_getElem hk)
  rw [e1]
  rfl
theorem RowsP.mono {t : TypeId} {w : World} {low low' : Nat} {vs : List Value} {xss : List (List Int)} (h : RowsP t w low vs xss) (hl : low ≤ low') : RowsP t w low' vs xss := by
  refine ⟨h.1, fun k v hv => ?_⟩
  obtain ⟨A', n', c', xs, e1, hx, hi, ha⟩ := h.2 k v hv
  exact ⟨A', n', c', xs, e1, hx, hi, fun hn a ea => (ha hn a ea).imp (fun h1 => Nat.lt_of_lt_of_le h1 hl) id⟩
theorem RowsP.pick {t : TypeId} {w : World} {low : Nat} {vs vs' : List Value} {xss xss' : List (List Int)} (h : RowsP t w low vs xss) (hl : vs'.length = xss'.length) (hp : ∀ (k : Nat) (v : Value), vs'[k]? = some v → ∃ j : Nat, vs[j]? = some v ∧ xss[j]? = xss'[k]?) : RowsP t w low vs' xss' := by
  refine ⟨hl, fun k v hv => ?_⟩
  obtain ⟨j, h1, h2⟩ := hp k v hv
  obtain ⟨A', n', c', xs, e1, hx, hi, ha⟩ := h.2 j v h1
  exact ⟨A', n', c', xs, e1, by rw [← h2]; exact hx, hi, ha⟩
theorem RowsP.take {t : TypeId} {w : World} {low : Nat} {vs : List Value} {xss : List (List Int)} (h : RowsP t w low vs xss) (k : Nat) : RowsP t w low (vs.take k) (xss.take k) :=
  h.pick (by simp [h.1]) fun j v hv => by
    have hj : j < k := by
      rcases Nat.lt_or_ge j k with hj | hj
      · exact hj
      · rw [List.getElem?_eq_none (by simp; omega)] at hv; cases hv
    rw [List.getElem?_take_of_lt hj] at hv
    exact ⟨j, hv, by rw [List.getElem?_take_of_lt hj]⟩
theorem RowsP.drop {t : TypeId} {w : World} {low : Nat} {vs : List Value} {xss : List (List Int)} (h : RowsP t w low vs xss) (k : Nat) : RowsP t w low (vs.drop k) (xss.drop k) :=
  h.pick (by simp [h.1]) fun j v hv => by
    rw [List.getElem?_drop] at hv
    exact ⟨k + j, hv, by rw [List.getElem?_drop]⟩
theorem RowsP.append {t : TypeId} {w : World} {low : Nat} {vs us : List Value} {xss yss : List (List Int)} (h : RowsP t w low vs xss) (h' : RowsP t w low us yss) : RowsP t w low (vs ++ us) (xss ++ yss) := by
  refine ⟨by simp [h.1, h'.1], fun k v hv => ?_⟩
  have := h.1
  rcases Nat.lt_or_ge k vs.length with hk | hk
  · rw [List.getElem?_append_left hk] at hv
    obtain ⟨B, m, d, ys, e1, hx, r⟩ := h.2 k v hv
    exact ⟨B, m, d, ys, e1, by rw [List.getElem?_append_left (by omega)]; exact hx, r⟩
  · rw [List.getElem?_append_right hk] at hv
    obtain ⟨B, m, d, ys, e1, hx, r⟩ := h'.2 _ v hv
    exact ⟨B, m, d, ys, e1, by rw [List.getElem?_append_right (by omega), ← this]; exact hx, r⟩
theorem RowsP.sl {t : TypeId} {w : World} {low : Nat} {A : Option Addr} {n c : Nat} {vs : List Value} {xss : List (List Int)} (h : RowsP t w low vs xss) (hs : Sl w A n c vs) : Grid w A n c xss := by
  refine ⟨vs, hs, h.1, fun k v hv => ?_⟩
  obtain ⟨A', n', c', xs, e1, hx, hi, _⟩ := h.2 k v hv
  exact ⟨A', n', c', xs, e1, hx, hi⟩
/-- The rows of clauses that came in. -/
theorem Grid.rowsP {w : World} {A : Option Addr} {n c : Nat} {xss : List (List Int)} (h : Grid w A n c xss) (t : TypeId) {low : Nat} (hl : w.heap.size ≤ low) : ∃ vs, Sl w A n c vs ∧ RowsP t w low vs xss := by
  obtain ⟨vs, h1, h2, h3⟩ := h.ex
  refine ⟨vs, h1, h2, fun k v hv => ?_⟩
  obtain ⟨A', n', c', xs, e, hx, hi⟩ := h3 k v hv
  exact ⟨A', n', c', xs, e, hx, hi, Away.old hi hl⟩

/-- A slice of slices of the call's own (element type e, from 'base' on); its rows lie below 'low' or are rows of element type t. -/
def OwnP (e t : TypeId) (w : World) (base low : Nat) (A : Option Addr) (n c : Nat) (xss : List (List Int)) : Prop := ∃ vs : List Value, Own e w base A n c vs ∧ RowsP t w low vs xss
section
variable {e t : TypeId} {w w' : World} {base low n c : Nat} {A : Option Addr} {xss : List (List Int)}
theorem OwnP.nil (e t : TypeId) (w : World) (base low : Nat) : OwnP e t w base low none 0 0 [] := ⟨[], Own.nil _ _ _, rfl, by simp⟩
theorem OwnP.len (h : OwnP e t w base low A n c xss) : xss.length = n := by
  obtain ⟨vs, h1, h2⟩ := h
  rw [← h2.1, h1.len]
theorem OwnP.grid (h : OwnP e t w base low A n c xss) : Grid w A n c xss := by
  obtain ⟨vs, h1, h2⟩ := h
  exact h2.sl h1.sl
theorem OwnP.keep (h : OwnP e t w base low A n c xss) (hb : Below w.heap.size w w') : OwnP e t w' base low A n c xss := by
  obtain ⟨vs, h1, h2⟩ := h
  exact ⟨vs, h1.keep hb, h2.keep hb⟩
theorem OwnP.mono {base' low' : Nat} (h : OwnP e t w base low A n c xss) (hb : base' ≤ base) (hl : low ≤ low') : OwnP e t w base' low' A n c xss := by
  obtain ⟨vs, h1, h2⟩ := h
  exact ⟨vs, h1.mono hb, h2.mono hl⟩
/-- What a row of the call's own grew by: a block from 'base' on of its type. -/
theorem own_rows {vs : List Value} (h : Own e w base A n c vs) (hl : low ≤ base) : ∀ g, blockOf A = some g → low ≤ g ∧ Typed e w g := fun g hg => by
  rcases h.form with ⟨rfl, _⟩ | ⟨g', cur, rfl, hg', hh, _⟩
  · cases hg
  · cases hg
    exact ⟨Nat.le_trans hl hg', ⟨cur, (0, 0), hh⟩⟩
/-- One row more: what an append of it leaves. -/
theorem OwnP.push {A2 A' : Option Addr} {c2 n' c' : Nat} {xs : List Int} {vs : List Value} (h1 : Own e w base A n c vs) (h2 : RowsP t w low vs xss) (hbl : low ≤ base) (hne : t ≠ e)
    (hi : Ints w A' n' c' xs) (ha : Away t w low A' n') (ho : Own e w' base A2 (n + 1) c2 (vs ++ [Value.slice A' n' c'])) (hg : w.grownBy w' (blockOf A)) : OwnP e t w' base low A2 (n + 1) c2 (xss ++ [xs]) :=
  ⟨_, ho, (h2.snoc hi ha).kept hg (own_rows h1 hbl) hne⟩
/-- Its row k. -/
theorem OwnP.round (h : OwnP e t w base low A n c xss) {k : Nat} (hk : k < n) : ∃ g A' n' c' xs, A = some ⟨g, 0, none⟩ ∧ base ≤ g ∧ g < w.heap.size ∧ w.cell? ⟨g, k, none⟩ = some (.slice A' n' c') ∧ w.frozen? ⟨g, k, none⟩ = false ∧ Ints w A' n' c' xs ∧ Away t w low A' n' ∧ Hid (xss[k]? = some xs) := by
  obtain ⟨vs, h1, h2⟩ := h
  obtain ⟨g, u, e1, hg, hlt, hc, hf, hu⟩ := h1.at_ hk
  obtain ⟨A', n', c', xs, e2, hx, hi, ha⟩ := h2.2 k u hu.out
  subst e2
  exact ⟨g, A', n', c', xs, e1, hg, hlt, hc, hf, hi, ha, hx⟩
end
end Go.Proofs.YtlfgcblijfflfaaGreat
