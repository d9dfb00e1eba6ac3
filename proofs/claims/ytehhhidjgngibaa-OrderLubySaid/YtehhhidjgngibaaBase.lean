/- Words for memory and small lemmas that every walk of this seat uses; no program in sight. -/
import Derived.WalkKit
import Derived.WalkSpells
import Derived.WalkLawsBesides
import Derived.Handy
import Derived.Lib.Hide
import Derived.Deep.QuietTactic
import Derived.BigQuiet
import Derived.Deep.LoopGhost
import Derived.Deep.DeepMust
import Derived.Deep.RegionWith
import Derived.StillTailTactics
namespace Go.Proofs.Ytehhhidjgngibaa
open Go.RowKit

/-- An int of 64 bits. -/
def I64 (x : Int) : Prop := -9223372036854775808 ≤ x ∧ x ≤ 9223372036854775807

theorem cell_lt {w : World} {a : Addr} {v : Value} (h : w.cell? a = some v) : a.block < w.heap.size ∧ a.spot = none := by
  unfold World.cell? at h
  rcases Nat.lt_or_ge a.block w.heap.size with hlt | hge
  · refine ⟨hlt, ?_⟩
    rw [Array.getElem?_eq_getElem hlt] at h
    split at h
    · split at h
      · cases h
      · rename_i hs
        cases hs' : a.spot with
        | none => rfl
        | some x => rw [hs'] at hs; simp at hs
    · cases h
  · rw [Array.getElem?_eq_none hge] at h
    cases h

/-- What lay in the world lies in the next one. -/
theorem keepBox {W W' : World} {a : Addr} {v : Value} (hb : Below W.heap.size W W') (h : W.cell? a = some v) : W'.cell? a = some v :=
  (hb.cell (p := a) (cell_lt h).1).trans h
theorem below_next {w w1 w2 : World} (h : Below w.heap.size w w1) (h2 : Below w1.heap.size w1 w2) : Below w.heap.size w w2 := h.trans (h2.mono h.size)
theorem below_alloc {w w1 : World} (h : Below w.heap.size w w1) (o : Obj) : Below w.heap.size w (w1.alloc o) := h.alloc h.size o
theorem below_new (w : World) (o : Obj) : Below w.heap.size w (w.alloc o) := (Below.refl _ _).alloc (Nat.le_refl _) o
/-- Behind a call that began with a new block o at W's end. -/
theorem below_box {W w2 : World} {o : Obj} (hb : Below (W.alloc o).heap.size (W.alloc o) w2) : Below W.heap.size W w2 ∧ W.heap.size < w2.heap.size :=
  ⟨below_next (below_new W o) hb, by have := hb.size; simp at this; omega⟩
/-- .. of two cells: they are there. -/
theorem box2 {W w2 : World} {x y : Value} {t : TypeId} (hb : Below (W.alloc (.cells #[x, y] t)).heap.size (W.alloc (.cells #[x, y] t)) w2) :
    w2.cell? ⟨W.heap.size, 0, none⟩ = some x ∧ w2.cell? ⟨W.heap.size, 1, none⟩ = some y ∧ W.heap.size < w2.heap.size ∧ Below W.heap.size W w2 :=
  ⟨keepBox hb (by simp [go_sem]), keepBox hb (by simp [go_sem]), (below_box hb).2, (below_box hb).1⟩

/-- The slice '.slice A n c' reads as the cells xs. -/
structure Sl (w : World) (A : Option Addr) (n c : Nat) (xs : List Value) : Prop where
  len : xs.length = n
  le : n ≤ c
  cap : c ≤ maxLen
  at_ : 0 < n → ∃ b off, A = some ⟨b, off, none⟩ ∧ b < w.heap.size ∧ ∀ k, k < n → w.cell? ⟨b, off + k, none⟩ = xs[k]?

theorem Sl.keep {w w' : World} {A : Option Addr} {n c : Nat} {xs : List Value} (h : Sl w A n c xs) (hb : Below w.heap.size w w') : Sl w' A n c xs :=
  ⟨h.len, h.le, h.cap, fun hn => by
    obtain ⟨b, off, e, hlt, hc⟩ := h.at_ hn
    exact ⟨b, off, e, Nat.lt_of_lt_of_le hlt hb.size, fun k hk => (hb.cell (p := ⟨b, off + k, none⟩) hlt).trans (hc k hk)⟩⟩

theorem Sl.take {w : World} {A : Option Addr} {n c : Nat} {xs : List Value} (h : Sl w A n c xs) {k : Nat} (hk : k ≤ n) : Sl w A k c (xs.take k) :=
  ⟨by simp [h.len]; omega, by have := h.le; omega, h.cap, fun hn => by
    obtain ⟨b, off, e, hlt, hc⟩ := h.at_ (by omega)
    exact ⟨b, off, e, hlt, fun j hj => by rw [hc j (by omega), List.getElem?_take_of_lt hj]⟩⟩

theorem Sl.cell {w : World} {A : Option Addr} {n c : Nat} {xs : List Value} (h : Sl w A n c xs) {k : Nat} (hk : k < n) :
    ∃ b off v, A = some ⟨b, off, none⟩ ∧ b < w.heap.size ∧ w.cell? ⟨b, off + k, none⟩ = some v ∧ xs[k]? = some v := by
  obtain ⟨b, off, e, hlt, hc⟩ := h.at_ (by omega)
  have hl : k < xs.length := by rw [h.len]; exact hk
  exact ⟨b, off, xs[k], e, hlt, (hc k hk).trans (List.getElem?_eq_getElem hl), List.getElem?_eq_getElem hl⟩

/-- The slice '.slice A n c' reads as the ints xs. -/
structure Ints (w : World) (A : Option Addr) (n c : Nat) (xs : List Int) : Prop where
  sl : Sl w A n c (xs.map (Value.int .i64))
  wf : ∀ x ∈ xs, I64 x

theorem Ints.len {w : World} {A : Option Addr} {n c : Nat} {xs : List Int} (h : Ints w A n c xs) : xs.length = n := by simpa using h.sl.len
theorem Ints.keep {w w' : World} {A : Option Addr} {n c : Nat} {xs : List Int} (h : Ints w A n c xs) (hb : Below w.heap.size w w') : Ints w' A n c xs := ⟨h.sl.keep hb, h.wf⟩
theorem Ints.take {w : World} {A : Option Addr} {n c : Nat} {xs : List Int} (h : Ints w A n c xs) {k : Nat} (hk : k ≤ n) : Ints w A k c (xs.take k) :=
  ⟨by rw [List.map_take]; exact h.sl.take hk, fun x hx => h.wf x (List.mem_of_mem_take hx)⟩
theorem Ints.bd {w : World} {A : Option Addr} {n c : Nat} {xs : List Int} (h : Ints w A n c xs) : n ≤ c ∧ c ≤ 9223372036854775807 := by
  have h1 := h.sl.le
  have h2 := h.sl.cap
  unfold maxLen at h2
  omega

theorem drop_cons_of {α : Type} {xs : List α} {k : Nat} {y : α} (h : xs[k]? = some y) : xs.drop k = y :: xs.drop (k + 1) := by
  obtain ⟨hk, rfl⟩ := List.getElem?_eq_some_iff.1 h
  exact List.drop_eq_getElem_cons hk
theorem take_snoc_of {α : Type} {xs : List α} {k : Nat} {y : α} (h : xs[k]? = some y) : xs.take (k + 1) = xs.take k ++ [y] := by
  rw [List.take_add_one, h]; rfl

/-- What a round at k meets: the cell, its number y, y's bounds; y stands ahead of the rest. -/
theorem Ints.round {w : World} {A : Option Addr} {n c : Nat} {xs : List Int} (h : Ints w A n c xs) {k : Nat} (hk : k < n) :
    ∃ b off y, A = some ⟨b, off, none⟩ ∧ b < w.heap.size ∧ w.cell? ⟨b, off + k, none⟩ = some (.int .i64 y) ∧ -9223372036854775808 ≤ y ∧ y ≤ 9223372036854775807 ∧ Hid (xs[k]? = some y) := by
  obtain ⟨b, off, v, e, hb, hc, hv⟩ := h.sl.cell hk
  rw [List.getElem?_map, Option.map_eq_some_iff] at hv
  obtain ⟨y, hx, rfl⟩ := hv
  have hw := h.wf y (List.mem_of_getElem? hx)
  exact ⟨b, off, y, e, hb, hc, hw.1, hw.2, hx⟩

/-- The slice '.slice A n c' reads as the bools xs. -/
def Bools (w : World) (A : Option Addr) (n c : Nat) (xs : List Bool) : Prop := Sl w A n c (xs.map Value.bool)
theorem Bools.len {w : World} {A : Option Addr} {n c : Nat} {xs : List Bool} (h : Bools w A n c xs) : xs.length = n := by simpa using Sl.len h
theorem Bools.keep {w w' : World} {A : Option Addr} {n c : Nat} {xs : List Bool} (h : Bools w A n c xs) (hb : Below w.heap.size w w') : Bools w' A n c xs := Sl.keep h hb
theorem Bools.bd {w : World} {A : Option Addr} {n c : Nat} {xs : List Bool} (h : Bools w A n c xs) : n ≤ c ∧ c ≤ 9223372036854775807 := by
  have h1 := Sl.le h
  have h2 := Sl.cap h
  unfold maxLen at h2
  omega
theorem Bools.round {w : World} {A : Option Addr} {n c : Nat} {xs : List Bool} (h : Bools w A n c xs) {k : Nat} (hk : k < n) :
    ∃ b off y, A = some ⟨b, off, none⟩ ∧ b < w.heap.size ∧ w.cell? ⟨b, off + k, none⟩ = some (.bool y) ∧ Hid (xs[k]? = some y) := by
  obtain ⟨b, off, v, e, hb, hc, hv⟩ := Sl.cell h hk
  rw [List.getElem?_map, Option.map_eq_some_iff] at hv
  obtain ⟨y, hx, rfl⟩ := hv
  exact ⟨b, off, y, e, hb, hc, hx⟩

/-- The slice '.slice A n c' reads as the rows xss: each cell is a slice that reads as its row. -/
structure Grid (w : World) (A : Option Addr) (n c : Nat) (xss : List (List Int)) : Prop where
  ex : ∃ vs : List Value, Sl w A n c vs ∧ vs.length = xss.length ∧ ∀ (k : Nat) (v : Value), vs[k]? = some v → ∃ (A' : Option Addr) (n' c' : Nat) (xs : List Int), v = Value.slice A' n' c' ∧ xss[k]? = some xs ∧ Ints w A' n' c' xs

theorem Grid.len {w : World} {A : Option Addr} {n c : Nat} {xss : List (List Int)} (h : Grid w A n c xss) : xss.length = n := by
  obtain ⟨vs, h1, h2, _⟩ := h.ex
  rw [← h2, h1.len]
theorem Grid.bd {w : World} {A : Option Addr} {n c : Nat} {xss : List (List Int)} (h : Grid w A n c xss) : n ≤ c ∧ c ≤ 9223372036854775807 := by
  obtain ⟨vs, h0, _, _⟩ := h.ex
  have h1 := h0.le
  have h2 := h0.cap
  unfold maxLen at h2
  omega
theorem Grid.keep {w w' : World} {A : Option Addr} {n c : Nat} {xss : List (List Int)} (h : Grid w A n c xss) (hb : Below w.heap.size w w') : Grid w' A n c xss := by
  obtain ⟨vs, h1, h2, h3⟩ := h.ex
  refine ⟨vs, h1.keep hb, h2, fun k v hv => ?_⟩
  obtain ⟨A', n', c', xs, e, hx, hi⟩ := h3 k v hv
  exact ⟨A', n', c', xs, e, hx, hi.keep hb⟩
theorem Grid.round {w : World} {A : Option Addr} {n c : Nat} {xss : List (List Int)} (h : Grid w A n c xss) {k : Nat} (hk : k < n) :
    ∃ b off A' n' c' xs, A = some ⟨b, off, none⟩ ∧ b < w.heap.size ∧ w.cell? ⟨b, off + k, none⟩ = some (.slice A' n' c') ∧ Ints w A' n' c' xs ∧ Hid (xss[k]? = some xs) := by
  obtain ⟨vs, h1, h2, h3⟩ := h.ex
  obtain ⟨b, off, v, e, hb, hc, hv⟩ := h1.cell hk
  obtain ⟨A', n', c', xs, rfl, hx, hi⟩ := h3 k v hv
  exact ⟨b, off, A', n', c', xs, e, hb, hc, hi, hx⟩
theorem Grid.take {w : World} {A : Option Addr} {n c : Nat} {xss : List (List Int)} (h : Grid w A n c xss) {k : Nat} (hk : k ≤ n) : Grid w A k c (xss.take k) := by
  obtain ⟨vs, h1, h2, h3⟩ := h.ex
  refine ⟨vs.take k, h1.take hk, by simp [h2], fun j v hv => ?_⟩
  have hj : j < k := by
    rcases Nat.lt_or_ge j k with hj | hj
    · exact hj
    · rw [List.getElem?_eq_none (by simp; omega)] at hv; cases hv
  rw [List.getElem?_take_of_lt hj] at hv
  obtain ⟨A', n', c', xs, e, hx, hi⟩ := h3 j v hv
  exact ⟨A', n', c', xs, e, by rw [List.getElem?_take_of_lt hj]; exact hx, hi⟩

theorem ret_int {k : IntKind} {a b : Int} (h : a = b) : Ending.returned (.int k a) = .returned (.int k b) := by rw [h]
theorem ret_bool {a b : Bool} (h : a = b) : Ending.returned (.bool a) = .returned (.bool b) := by rw [h]

/-- A result that is a bool; the world is as it was. -/
def RetB (b : Bool) (w : World) (e : Ending) (w' : World) : Prop := e = .returned (.bool b) ∧ w = w'
/-- A result that is an int; the world is as it was. -/
def RetI (n : Int) (w : World) (e : Ending) (w' : World) : Prop := e = .returned (.int .i64 n) ∧ w = w'
/-- A result that is a bool; what lay in the world lies there unturned. -/
def RetBB (b : Bool) (w : World) (e : Ending) (w' : World) : Prop := e = .returned (.bool b) ∧ Below w.heap.size w w'
end Go.Proofs.Ytehhhidjgngibaa
