/- Slices of slices of the call's own; no program in sight. -/
import Derived.Test.YtlfgcblijfflfaaGreatOwn
namespace Go.Proofs.YtlfgcblijfflfaaGreat
open Go.RowKit

theorem heap_lt {w : World} {g : Nat} {o : Obj} (h : w.heap[g]? = some o) : g < w.heap.size := by
  rcases Nat.lt_or_ge g w.heap.size with hlt | hge
  · exact hlt
  · rw [Array.getElem?_eq_none hge] at h; cases h
/-- The block g has the element type t. -/
def Typed (t : TypeId) (w : World) (g : Nat) : Prop := ∃ cur fz, w.heap[g]? = some (.cells cur t fz)
theorem Typed.of_blk {t : TypeId} {w : World} {g : Nat} {cs : Array Value} (h : Blk w g t cs) : Typed t w g := ⟨cs, (0, 0), h⟩
theorem Typed.of_own {t : TypeId} {w : World} {base n c : Nat} {g : Nat} {xs : List Value} (h : Own t w base (some ⟨g, 0, none⟩) n c xs) : Typed t w g := by
  rcases h.form with ⟨h0, _⟩ | ⟨g', cur, h0, _, hh, _⟩
  · cases h0
  · cases h0; exact ⟨cur, (0, 0), hh⟩
theorem Typed.keep {t : TypeId} {w w' : World} {g : Nat} (h : Typed t w g) (hb : Below w.heap.size w w') : Typed t w' g := by
  obtain ⟨cur, fz, hh⟩ := h
  exact ⟨cur, fz, (hb.block _ (heap_lt hh)).trans hh⟩

/-- The block of A lies below 'base', or is one of element type t. -/
def Apart (t : TypeId) (w : World) (base : Nat) (A : Option Addr) : Prop := ∀ a, A = some a → a.block < base ∨ Typed t w a.block
theorem apart_none (t : TypeId) (w : World) (base : Nat) : Apart t w base none := fun _ h => by cases h
theorem Apart.keep {t : TypeId} {w w' : World} {base : Nat} {A : Option Addr} (h : Apart t w base A) (hb : Below w.heap.size w w') : Apart t w' base A := fun a ha => (h a ha).imp id (fun h1 => h1.keep hb)
theorem Apart.of_own {t : TypeId} {w : World} {base base' n c : Nat} {A : Option Addr} {xs : List Value} (h : Own t w base' A n c xs) : Apart t w base A := fun a ha => by
  rcases h.form with ⟨rfl, _⟩ | ⟨g, cur, rfl, _, hh, _⟩
  · cases ha
  · cases ha; exact .inr ⟨cur, (0, 0), hh⟩
/-- .. it is no block from 'base' on of another element type. -/
theorem Apart.ne {t t' : TypeId} {w : World} {base g : Nat} {A : Option Addr} (h : Apart t w base A) (hg : base ≤ g) (hT : Typed t' w g) (hne : t ≠ t') : blockOf A = none ∨ blockOf A ≠ some g := by
  cases A with
  | none => exact .inl rfl
  | some a =>
    right
    intro he
    simp [blockOf] at he
    rcases h a rfl with h1 | ⟨cur', fz, hh'⟩
    · omega
    · obtain ⟨cur, fz', hh⟩ := hT
      rw [he, hh] at hh'
      injection hh' with hh'
      injection hh' with _ ht
      exact hne ht.symm
theorem Ints.kept {w w' : World} {A : Option Addr} {n c : Nat} {xs : List Int} {row : Option Nat} (h : Ints w A n c xs) (hg : w.grownBy w' row) (hne : blockOf A = none ∨ blockOf A ≠ row) : Ints w' A n c xs := by
  refine ⟨⟨h.sl.len, h.sl.le, h.sl.cap, fun hn => ?_⟩, h.wf⟩
  obtain ⟨b, off, rfl, hlt, hc⟩ := h.sl.at_ hn
  refine ⟨b, off, rfl, Nat.lt_of_lt_of_le hlt hg.size, fun k hk => ?_⟩
  rw [World.cell?_of_block (w := w) (w' := w') (a := ⟨b, off + k, none⟩) (hg.block b hlt (by simp [blockOf] at hne; exact hne)), hc k hk]
theorem Apart.kept {t : TypeId} {w w' : World} {base : Nat} {A : Option Addr} {row : Option Nat} (h : Apart t w base A) (hg : w.grownBy w' row) (hne : blockOf A = none ∨ blockOf A ≠ row) : Apart t w' base A := fun a ha => by
  rcases h a ha with h1 | ⟨cur, fz, hh⟩
  · exact .inl h1
  · subst ha
    exact .inr ⟨cur, fz, (hg.block _ (heap_lt hh) (by simp [blockOf] at hne; exact hne)).trans hh⟩
theorem grown_setCell (w : World) (p : Addr) (u : Value) : w.grownBy (w.setCell p u) (some p.block) :=
  ⟨rfl, rfl, rfl, by simp [World.setCell], fun k _ hne => Below.heap_setCell w p u k (fun e => hne (by rw [e]))⟩

/-- Its cells are slices that read as the rows xss, each apart. -/
def RowsIn (t : TypeId) (w : World) (base : Nat) (vs : List Value) (xss : List (List Int)) : Prop :=
  vs.length = xss.length ∧ ∀ (k : Nat) (v : Value), vs[k]? = some v → ∃ (A' : Option Addr) (n' c' : Nat) (xs : List Int), v = Value.slice A' n' c' ∧ xss[k]? = some xs ∧ Ints w A' n' c' xs ∧ Apart t w base A'
theorem RowsIn.keep {t : TypeId} {w w' : World} {base : Nat} {vs : List Value} {xss : List (List Int)} (h : RowsIn t w base vs xss) (hb : Below w.heap.size w w') : RowsIn t w' base vs xss := by
  refine ⟨h.1, fun k v hv => ?_⟩
  obtain ⟨A', n', c', xs, e1, hx, hi, ha⟩ := h.2 k v hv
  exact ⟨A', n', c', xs, e1, hx, hi.keep hb, ha.keep hb⟩
/-- A block from 'base' on of another element type is written. -/
theorem RowsIn.kept {t t' : TypeId} {w w' : World} {base g : Nat} {vs : List Value} {xss : List (List Int)} (h : RowsIn t w base vs xss) (hg : w.grownBy w' (some g)) (hb : base ≤ g) (hT : Typed t' w g) (hne : t ≠ t') : RowsIn t w' base vs xss := by
  refine ⟨h.1, fun k v hv => ?_⟩
  obtain ⟨A', n', c', xs, e1, hx, hi, ha⟩ := h.2 k v hv
  exact ⟨A', n', c', xs, e1, hx, hi.kept hg (ha.ne hb hT hne), ha.kept hg (ha.ne hb hT hne)⟩
theorem RowsIn.none_ {t : TypeId} {w w' : World} {base : Nat} {vs : List Value} {xss : List (List Int)} (h : RowsIn t w base vs xss) (hg : w.grownBy w' none) : RowsIn t w' base vs xss := by
  refine ⟨h.1, fun k v hv => ?_⟩
  obtain ⟨A', n', c', xs, e1, hx, hi, ha⟩ := h.2 k v hv
  have : blockOf A' = none ∨ blockOf A' ≠ none := by cases blockOf A' <;> simp
  exact ⟨A', n', c', xs, e1, hx, hi.kept hg this, ha.kept hg this⟩
theorem RowsIn.snoc {t : TypeId} {w : World} {base n c : Nat} {vs : List Value} {xss : List (List Int)} {A : Option Addr} {xs : List Int} (h : RowsIn t w base vs xss) (hi : Ints w A n c xs) (ha : Apart t w base A) : RowsIn t w base (vs ++ [Value.slice A n c]) (xss ++ [xs]) := by
  refine ⟨by simp [h.1], fun k v hv => ?_⟩
  rcases Nat.lt_or_ge k vs.length with hk | hk
  · rw [List.getElem?_append_left hk] at hv
    obtain ⟨B, m, d, ys, e1, hx, hi', ha'⟩ := h.2 k v hv
    exact ⟨B, m, d, ys, e1, by rw [List.getElem?_append_left (by rw [← h.1]; exact hk)]; exact hx, hi', ha'⟩
  · rw [List.getElem?_append_right hk] at hv
    have hk0 : k - vs.length = 0 := by
      rcases Nat.eq_zero_or_pos (k - vs.length) with h0 | h0
      · exact h0
      · rw [List.getElem?_eq_none (by simp; omega)] at hv; cases hv
    rw [hk0] at hv
    simp at hv
    subst hv
    refine ⟨A, n, c, xs, rfl, ?_, hi, ha⟩
    have := h.1
    rw [List.getElem?_append_right (by omega), show k - xss.length = 0 by omega]
    rfl
theorem RowsIn.one {t : TypeId} {w : World} {base : Nat} {vs : List Value} {xss : List (List Int)} (h : RowsIn t w base vs xss) : ∀ u ∈ vs, u.oneCell' = true := fun u hu => by
  obtain ⟨k, hk, rfl⟩ := List.getElem_of_mem hu
  obtain ⟨A', n', c', xs, e1, _⟩ := h.2 k _ (List.getElem?_eq_getElem hk)
  rw [e1]
  rfl

theorem Own.ne_typed {e t' : TypeId} {w : World} {base n c g : Nat} {A : Option Addr} {xs : List Value} (h : Own e w base A n c xs) (hT : Typed t' w g) (hne : e ≠ t') : blockOf A = none ∨ blockOf A ≠ some g := by
  rcases h.form with ⟨rfl, _⟩ | ⟨g', cur, rfl, _, hh, _⟩
  · exact .inl rfl
  · right
    intro he
    simp [blockOf] at he
    subst he
    obtain ⟨cur', fz, hh'⟩ := hT
    rw [hh] at hh'
    injection hh' with hh'
    injection hh' with _ ht
    exact hne ht
/-- A slice of slices of the call's own (element type e, from 'base' on; the rows' element type t, or below 'low'). -/
def OwnG (e t : TypeId) (w : World) (base low : Nat) (A : Option Addr) (n c : Nat) (xss : List (List Int)) : Prop := ∃ vs : List Value, Own e w base A n c vs ∧ RowsIn t w low vs xss
section
variable {e t : TypeId} {w w' : World} {base low n c : Nat} {A : Option Addr} {xss : List (List Int)}
theorem OwnG.nil (e t : TypeId) (w : World) (base low : Nat) : OwnG e t w base low none 0 0 [] := ⟨[], Own.nil _ _ _, rfl, by simp⟩
theorem OwnG.len (h : OwnG e t w base low A n c xss) : xss.length = n := by
  obtain ⟨vs, h1, h2⟩ := h
  rw [← h2.1, h1.len]
theorem OwnG.grid (h : OwnG e t w base low A n c xss) : Grid w A n c xss := by
  obtain ⟨vs, h1, h2⟩ := h
  refine ⟨vs, h1.sl, h2.1, fun k v hv => ?_⟩
  obtain ⟨A', n', c', xs, e1, hx, hi, _⟩ := h2.2 k v hv
  exact ⟨A', n', c', xs, e1, hx, hi⟩
theorem OwnG.keep (h : OwnG e t w base low A n c xss) (hb : Below w.heap.size w w') : OwnG e t w' base low A n c xss := by
  obtain ⟨vs, h1, h2⟩ := h
  exact ⟨vs, h1.keep hb, h2.keep hb⟩
/-- A block of the call's own of a third element type is written. -/
theorem OwnG.kept {g : Nat} {t' : TypeId} (h : OwnG e t w base low A n c xss) (hg : w.grownBy w' (some g)) (hb : low ≤ g) (hT : Typed t' w g) (hne : t ≠ t') (hne' : e ≠ t') : OwnG e t w' base low A n c xss := by
  obtain ⟨vs, h1, h2⟩ := h
  exact ⟨vs, h1.kept hg (h1.ne_typed hT hne'), h2.kept hg hb hT hne⟩
/-- One row more: what an append of it leaves. -/
theorem OwnG.push {A2 A' : Option Addr} {c2 n' c' : Nat} {xs : List Int} {vs : List Value} (h1 : Own e w base A n c vs) (h2 : RowsIn t w low vs xss) (hbl : low ≤ base) (hne : t ≠ e)
    (hi : Ints w A' n' c' xs) (ha : Apart t w low A') (ho : Own e w' base A2 (n + 1) c2 (vs ++ [Value.slice A' n' c'])) (hg : w.grownBy w' (blockOf A)) : OwnG e t w' base low A2 (n + 1) c2 (xss ++ [xs]) := by
  refine ⟨_, ho, ?_⟩
  have h3 := h2.snoc hi ha
  rcases h1.form with ⟨rfl, _⟩ | ⟨g, cur, rfl, hg', hh, _⟩
  · exact h3.none_ hg
  · exact h3.kept hg (Nat.le_trans hbl hg') ⟨cur, (0, 0), hh⟩ hne
end
theorem Blk.grownO {e : TypeId} {w w' : World} {base n c g : Nat} {t : TypeId} {cs : Array Value} {A : Option Addr} {xs : List Value} (h : Blk w g t cs) (ho : Own e w base A n c xs) (hg : w.grownBy w' (blockOf A)) (hb : g < base) : Blk w' g t cs :=
  h.grown hg (fun e1 => by
    rcases ho.form with ⟨rfl, _⟩ | ⟨g', cur, rfl, hg', _⟩
    · cases e1
    · simp [blockOf] at e1; omega)
/-- A new block of one slice, read as cells. -/
theorem sl_one (w : World) (t : TypeId) (v : Value) {b : Nat} (hb : b = w.heap.size) : Sl (w.alloc (.cells #[v] t)) (some ⟨b, 0, none⟩) 1 1 [v] := by
  subst hb
  refine ⟨rfl, Nat.le_refl _, by simp [maxLen], fun _ => ⟨w.heap.size, 0, rfl, by simp, fun k hk => ?_⟩⟩
  obtain rfl : k = 0 := by omega
  have := (Blk.new w t #[v]).cell 0
  simp at this ⊢
end Go.Proofs.YtlfgcblijfflfaaGreat
