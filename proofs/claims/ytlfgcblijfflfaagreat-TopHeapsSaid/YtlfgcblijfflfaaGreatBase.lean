/- Words for memory and small lemmas that every walk of this seat uses; no program in sight. -/
import Derived.WalkKit
import Derived.WalkSpells
import Derived.WalkLawsBesides
import Derived.Handy
import Derived.Lib.Hide
import Derived.Deep.QuietTactic
import Derived.BigQuiet
import Derived.Deep.LoopGhost
import Derived.Deep.DeepMust
import Derived.Deep.RegionWith
import Derived.StillTailTactics
import Derived.Laws.Rows
import Derived.Deep.Draws
namespace Go.Proofs.YtlfgcblijfflfaaGreat
open Go.RowKit

/-- An int of 64 bits. -/
def I64 (x : Int) : Prop := -9223372036854775808 ≤ x ∧ x ≤ 9223372036854775807

theorem cell_lt {w : World} {a : Addr} {v : Value} (h : w.cell? a = some v) : a.block < w.heap.size ∧ a.spot = none := by
  unfold World.cell? at h
  rcases Nat.lt_or_ge a.block w.heap.size with hlt | hge
  · refine ⟨hlt, ?_⟩
    rw [Array.getElem?_eq_getElem hlt] at h
    split at h
    · split at h
      · cases h
      · rename_i hs
        cases hs' : a.spot with
        | none => rfl
        | some x => rw [hs'] at hs; simp at hs
    · cases h
  · rw [Array.getElem?_eq_none hge] at h
    cases h

/-- What lay in the world lies in the next one. -/
theorem keepBox {W W' : World} {a : Addr} {v : Value} (hb : Below W.heap.size W W') (h : W.cell? a = some v) : W'.cell? a = some v :=
  (hb.cell (p := a) (cell_lt h).1).trans h
theorem below_next {w w1 w2 : World} (h : Below w.heap.size w w1) (h2 : Below w1.heap.size w1 w2) : Below w.heap.size w w2 := h.trans (h2.mono h.size)
theorem below_alloc {w w1 : World} (h : Below w.heap.size w w1) (o : Obj) : Below w.heap.size w (w1.alloc o) := h.alloc h.size o
theorem below_new (w : World) (o : Obj) : Below w.heap.size w (w.alloc o) := (Below.refl _ _).alloc (Nat.le_refl _) o
/-- Behind a call that began with a new block o at W's end. -/
theorem below_box {W w2 : World} {o : Obj} (hb : Below (W.alloc o).heap.size (W.alloc o) w2) : Below W.heap.size W w2 ∧ W.heap.size < w2.heap.size :=
  ⟨below_next (below_new W o) hb, by have := hb.size; simp at this; omega⟩
/-- .. of two cells: they are there. -/
theorem box2 {W w2 : World} {x y : Value} {t : TypeId} (hb : Below (W.alloc (.cells #[x, y] t)).heap.size (W.alloc (.cells #[x, y] t)) w2) :
    w2.cell? ⟨W.heap.size, 0, none⟩ = some x ∧ w2.cell? ⟨W.heap.size, 1, none⟩ = some y ∧ W.heap.size < w2.heap.size ∧ Below W.heap.size W w2 :=
  ⟨keepBox hb (by simp [go_sem]), keepBox hb (by simp [go_sem]), (below_box hb).2, (below_box hb).1⟩

/-- The slice '.slice A n c' reads as the cells xs. -/
structure Sl (w : World) (A : Option Addr) (n c : Nat) (xs : List Value) : Prop where
  len : xs.length = n
  le : n ≤ c
  cap : c ≤ maxLen
  at_ : 0 < n → ∃ b off, A = some ⟨b, off, none⟩ ∧ b < w.heap.size ∧ ∀ k, k < n → w.cell? ⟨b, off + k, none⟩ = xs[k]?

theorem Sl.keep {w w' : World} {A : Option Addr} {n c : Nat} {xs : List Value} (h : Sl w A n c xs) (hb : Below w.heap.size w w') : Sl w' A n c xs :=
  ⟨h.len, h.le, h.cap, fun hn => by
    obtain ⟨b, off, e, hlt, hc⟩ := h.at_ hn
    exact ⟨b, off, e, Nat.lt_of_lt_of_le hlt hb.size, fun k hk => (hb.cell (p := ⟨b, off + k, none⟩) hlt).trans (hc k hk)⟩⟩

theorem Sl.take {w : World} {A : Option Addr} {n c : Nat} {xs : List Value} (h : Sl w A n c xs) {k : Nat} (hk : k ≤ n) : Sl w A k c (xs.take k) :=
  ⟨by simp [h.len]; omega, by have := h.le; omega, h.cap, fun hn => by
    obtain ⟨b, off, e, hlt, hc⟩ := h.at_ (by omega)
    exact ⟨b, off, e, hlt, fun j hj => by rw [hc j (by omega), List.getElem?_take_of_lt hj]⟩⟩

theorem Sl.cell {w : World} {A : Option Addr} {n c : Nat} {xs : List Value} (h : Sl w A n c xs) {k : Nat} (hk : k < n) :
    ∃ b off v, A = some ⟨b, off, none⟩ ∧ b < w.heap.size ∧ w.cell? ⟨b, off + k, none⟩ = some v ∧ xs[k]? = some v := by
  obtain ⟨b, off, e, hlt, hc⟩ := h.at_ (by omega)
  have hl : k < xs.length := by rw [h.len]; exact hk
  exact ⟨b, off, xs[k], e, hlt, (hc k hk).trans (List.getElem?_eq_getElem hl), List.getElem?_eq_getElem hl⟩

/-- The slice '.slice A n c' reads as the ints xs. -/
structure Ints (w : World) (A : Option Addr) (n c : Nat) (xs : List Int) : Prop where
  sl : Sl w A n c (xs.map (Value.int .i64))
  wf : ∀ x ∈ xs, I64 x

theorem Ints.len {w : World} {A : Option Addr} {n c : Nat} {xs : List Int} (h : Ints w A n c xs) : xs.length = n := by simpa using h.sl.len
theorem Ints.keep {w w' : World} {A : Option Addr} {n c : Nat} {xs : List Int} (h : Ints w A n c xs) (hb : Below w.heap.size w w') : Ints w' A n c xs := ⟨h.sl.keep hb, h.wf⟩
theorem Ints.take {w : World} {A : Option Addr} {n c : Nat} {xs : List Int} (h : Ints w A n c xs) {k : Nat} (hk : k ≤ n) : Ints w A k c (xs.take k) :=
  ⟨by rw [List.map_take]; exact h.sl.take hk, fun x hx => h.wf x (List.mem_of_mem_take hx)⟩
theorem Ints.bd {w : World} {A : Option Addr} {n c : Nat} {xs : List Int} (h : Ints w A n c xs) : n ≤ c ∧ c ≤ 9223372036854775807 := by
  have h1 := h.sl.le
  have h2 := h.sl.cap
  unfold maxLen at h2
  omega

theorem drop_cons_of {α : Type} {xs : List α} {k : Nat} {y : α} (h : xs[k]? = some y) : xs.drop k = y :: xs.drop (k + 1) := by
  obtain ⟨hk, rfl⟩ := List.getElem?_eq_some_iff.1 h
  exact List.drop_eq_getElem_cons hk
theorem take_snoc_of {α : Type} {xs : List α} {k : Nat} {y : α} (h : xs[k]? = some y) : xs.take (k + 1) = xs.take k ++ [y] := by
  rw [List.take_add_one, h]; rfl

/-- What a round at k meets: the cell, its number y, y's bounds; y stands ahead of the rest. -/
theorem Ints.round {w : World} {A : Option Addr} {n c : Nat} {xs : List Int} (h : Ints w A n c xs) {k : Nat} (hk : k < n) :
    ∃ b off y, A = some ⟨b, off, none⟩ ∧ b < w.heap.size ∧ w.cell? ⟨b, off + k, none⟩ = some (.int .i64 y) ∧ -9223372036854775808 ≤ y ∧ y ≤ 9223372036854775807 ∧ Hid (xs[k]? = some y) := by
  obtain ⟨b, off, v, e, hb, hc, hv⟩ := h.sl.cell hk
  rw [List.getElem?_map, Option.map_eq_some_iff] at hv
  obtain ⟨y, hx, rfl⟩ := hv
  have hw := h.wf y (List.mem_of_getElem? hx)
  exact ⟨b, off, y, e, hb, hc, hw.1, hw.2, hx⟩

/-- The slice '.slice A n c' reads as the bools xs. -/
def Bools (w : World) (A : Option Addr) (n c : Nat) (xs : List Bool) : Prop := Sl w A n c (xs.map Value.bool)
theorem Bools.len {w : World} {A : Option Addr} {n c : Nat} {xs : List Bool} (h : Bools w A n c xs) : xs.length = n := by simpa using Sl.len h
theorem Bools.keep {w w' : World} {A : Option Addr} {n c : Nat} {xs : List Bool} (h : Bools w A n c xs) (hb : Below w.heap.size w w') : Bools w' A n c xs := Sl.keep h hb
theorem Bools.bd {w : World} {A : Option Addr} {n c : Nat} {xs : List Bool} (h : Bools w A n c xs) : n ≤ c ∧ c ≤ 9223372036854775807 := by
  have h1 := Sl.le h
  have h2 := Sl.cap h
  unfold maxLen at h2
  omega
theorem Bools.round {w : World} {A : Option Addr} {n c : Nat} {xs : List Bool} (h : Bools w A n c xs) {k : Nat} (hk : k < n) :
    ∃ b off y, A = some ⟨b, off, none⟩ ∧ b < w.heap.size ∧ w.cell? ⟨b, off + k, none⟩ = some (.bool y) ∧ Hid (xs[k]? = some y) := by
  obtain ⟨b, off, v, e, hb, hc, hv⟩ := Sl.cell h hk
  rw [List.getElem?_map, Option.map_eq_some_iff] at hv
  obtain ⟨y, hx, rfl⟩ := hv
  exact ⟨b, off, y, e, hb, hc, hx⟩

/-- The slice '.slice A n c' reads as the rows xss: each cell is a slice that reads as its row. -/
structure Grid (w : World) (A : Option Addr) (n c : Nat) (xss : List (List Int)) : Prop where
  ex : ∃ vs : List Value, Sl w A n c vs ∧ vs.length = xss.length ∧ ∀ (k : Nat) (v : Value), vs[k]? = some v → ∃ (A' : Option Addr) (n' c' : Nat) (xs : List Int), v = Value.slice A' n' c' ∧ xss[k]? = some xs ∧ Ints w A' n' c' xs

theorem Grid.len {w : World} {A : Option Addr} {n c : Nat} {xss : List (List Int)} (h : Grid w A n c xss) : xss.length = n := by
  obtain ⟨vs, h1, h2, _⟩ := h.ex
  rw [← h2, h1.len]
theorem Grid.bd {w : World} {A : Option Addr} {n c : Nat} {xss : List (List Int)} (h : Grid w A n c xss) : n ≤ c ∧ c ≤ 9223372036854775807 := by
  obtain ⟨vs, h0, _, _⟩ := h.ex
  have h1 := h0.le
  have h2 := h0.cap
  unfold maxLen at h2
  omega
theorem Grid.keep {w w' : World} {A : Option Addr} {n c : Nat} {xss : List (List Int)} (h : Grid w A n c xss) (hb : Below w.heap.size w w') : Grid w' A n c xss := by
  obtain ⟨vs, h1, h2, h3⟩ := h.ex
  refine ⟨vs, h1.keep hb, h2, fun k v hv => ?_⟩
  obtain ⟨A', n', c', xs, e, hx, hi⟩ := h3 k v hv
  exact ⟨A', n', c', xs, e, hx, hi.keep hb⟩
theorem Grid.round {w : World} {A : Option Addr} {n c : Nat} {xss : List (List Int)} (h : Grid w A n c xss) {k : Nat} (hk : k < n) :
    ∃ b off A' n' c' xs, A = some ⟨b, off, none⟩ ∧ b < w.heap.size ∧ w.cell? ⟨b, off + k, none⟩ = some (.slice A' n' c') ∧ Ints w A' n' c' xs ∧ Hid (xss[k]? = some xs) := by
  obtain ⟨vs, h1, h2, h3⟩ := h.ex
  obtain ⟨b, off, v, e, hb, hc, hv⟩ := h1.cell hk
  obtain ⟨A', n', c', xs, rfl, hx, hi⟩ := h3 k v hv
  exact ⟨b, off, A', n', c', xs, e, hb, hc, hi, hx⟩
theorem Grid.take {w : World} {A : Option Addr} {n c : Nat} {xss : List (List Int)} (h : Grid w A n c xss) {k : Nat} (hk : k ≤ n) : Grid w A k c (xss.take k) := by
  obtain ⟨vs, h1, h2, h3⟩ := h.ex
  refine ⟨vs.take k, h1.take hk, by simp [h2], fun j v hv => ?_⟩
  have hj : j < k := by
    rcases Nat.lt_or_ge j k with hj | hj
    · exact hj
    · rw [List.getElem?_eq_none (by simp; omega)] at hv; cases hv
  rw [List.getElem?_take_of_lt hj] at hv
  obtain ⟨A', n', c', xs, e, hx, hi⟩ := h3 j v hv
  exact ⟨A', n', c', xs, e, by rw [List.getElem?_take_of_lt hj]; exact hx, hi⟩

theorem ret_int {k : IntKind} {a b : Int} (h : a = b) : Ending.returned (.int k a) = .returned (.int k b) := by rw [h]
theorem ret_bool {a b : Bool} (h : a = b) : Ending.returned (.bool a) = .returned (.bool b) := by rw [h]

/-- A call that only reads: the value v; the world has at most drawn. -/
def RetQ (v : Value) (w : World) (e : Ending) (w' : World) : Prop := e = .returned v ∧ ∃ m, w' = w.drewN m
theorem RetQ.same (v : Value) (w : World) : RetQ v w (.returned v) w := ⟨rfl, 0, rfl⟩
theorem RetQ.of {v u : Value} {w : World} (m : Nat) (h : v = u) : RetQ v w (.returned u) (w.drewN m) := ⟨by rw [h], m, rfl⟩
theorem RetQ.of0 {v u : Value} {w : World} (h : v = u) : RetQ v w (.returned u) w := ⟨by rw [h], 0, rfl⟩
theorem RetQ.quiet {P : Program} {f : FuncId} {args : Array Value} {w : World} {n : Nat} {v : Value} (h : Calls P f args (w.drewN n) (RetQ v (w.drewN n))) :
    Calls P f args (w.drewN n) fun e w'' => e = .returned v ∧ ∃ m, w'' = w.drewN m :=
  h.mono fun _ _ ⟨he, m, hm⟩ => ⟨he, n + m, by rw [hm, World.drewN_drewN]⟩
theorem below_drewN (w : World) (m : Nat) : Below w.heap.size w (w.drewN m) := ⟨rfl, rfl, rfl, Nat.le_refl _, fun _ _ => rfl⟩
/-- A result v; what lay in the world lies there unturned. -/
def RetV (v : Value) (w : World) (e : Ending) (w' : World) : Prop := e = .returned v ∧ Below w.heap.size w w'
theorem RetQ.v {v : Value} {w : World} {e : Ending} {w' : World} (h : RetQ v w e w') : RetV v w e w' := by
  obtain ⟨h1, m, rfl⟩ := h
  exact ⟨h1, below_drewN w m⟩
/-- A result that is an int, and a fault (code, at); what lay in the world lies unturned. -/
def RetIF (n code at' : Int) (w : World) (e : Ending) (w' : World) : Prop :=
  e = .returned (.tuple #[.int .i64 n, .agg #[.int .i64 code, .int .i64 at']]) ∧ Below w.heap.size w w'

/-- A block that is known whole. -/
def Blk (w : World) (g : Nat) (t : TypeId) (cs : Array Value) : Prop := w.heap[g]? = some (.cells cs t (0, 0))
section
variable {w w' : World} {g : Nat} {t : TypeId} {cs : Array Value}
theorem Blk.lt (h : Blk w g t cs) : g < w.heap.size := by
  rcases Nat.lt_or_ge g w.heap.size with hlt | hge
  · exact hlt
  · unfold Blk at h; rw [Array.getElem?_eq_none hge] at h; cases h
theorem Blk.cell (h : Blk w g t cs) (i : Nat) : w.cell? ⟨g, i, none⟩ = cs[i]? := cell_of_row w g i cs t (0, 0) h
theorem Blk.frozen (h : Blk w g t cs) (i : Nat) : w.frozen? ⟨g, i, none⟩ = false := by
  unfold Blk at h
  simp [World.frozen?, h]
theorem Blk.new (w : World) (t : TypeId) (cs : Array Value) : Blk (w.alloc (.cells cs t)) w.heap.size t cs := heap_alloc_new w _
theorem Blk.alloc (h : Blk w g t cs) (o : Obj) : Blk (w.alloc o) g t cs := (Below.heap_alloc w o g h.lt).trans h
theorem Blk.keep (h : Blk w g t cs) (hb : Below w.heap.size w w') : Blk w' g t cs := (hb.block g h.lt).trans h
theorem Blk.below {B : Nat} (h : Blk w g t cs) (hb : Below B w w') (hg : g < B) : Blk w' g t cs := (hb.block g hg).trans h
theorem Blk.grown {row : Option Nat} (h : Blk w g t cs) (hb : w.grownBy w' row) (hg : some g ≠ row) : Blk w' g t cs := (hb.block g h.lt hg).trans h
theorem Blk.far (h : Blk w g t cs) {p : Addr} (hp : g ≠ p.block) (u : Value) : Blk (w.setCell p u) g t cs := (Below.heap_setCell w p u g hp).trans h
theorem Blk.set_ (h : Blk w g t cs) (i : Nat) (u : Value) : Blk (w.setCell ⟨g, i, none⟩ u) g t (cs.setIfInBounds i u) := by
  unfold Blk at h ⊢
  simp [World.setCell, Array.getElem?_modify, h]
end
theorem Ints.drewN {w : World} {A : Option Addr} {n c : Nat} {xs : List Int} (h : Ints w A n c xs) (m : Nat) : Ints (w.drewN m) A n c xs := h.keep (below_drewN w m)
theorem Bools.drewN {w : World} {A : Option Addr} {n c : Nat} {xs : List Bool} (h : Bools w A n c xs) (m : Nat) : Bools (w.drewN m) A n c xs := h.keep (below_drewN w m)
theorem Grid.drewN {w : World} {A : Option Addr} {n c : Nat} {xss : List (List Int)} (h : Grid w A n c xss) (m : Nat) : Grid (w.drewN m) A n c xss := h.keep (below_drewN w m)
/-- A new block of ints, read as a slice; b: its number. -/
theorem ints_made (w : World) (t : TypeId) (xs : List Int) {b : Nat} (hb : b = w.heap.size) (hx : ∀ x ∈ xs, I64 x) (hl : xs.length ≤ maxLen) : Ints (w.alloc (.cells (xs.map (Value.int .i64)).toArray t)) (some ⟨b, 0, none⟩) xs.length xs.length xs := by
  subst hb
  refine ⟨⟨by simp, Nat.le_refl _, hl, fun _ => ⟨w.heap.size, 0, rfl, by simp, fun k _ => ?_⟩⟩, hx⟩
  have := (Blk.new w t (xs.map (Value.int .i64)).toArray).cell (0 + k)
  rw [this]
  simp
theorem bools_made (w : World) (t : TypeId) (xs : List Bool) {b : Nat} (hb : b = w.heap.size) (hl : xs.length ≤ maxLen) : Bools (w.alloc (.cells (xs.map Value.bool).toArray t)) (some ⟨b, 0, none⟩) xs.length xs.length xs := by
  subst hb
  refine ⟨by simp, Nat.le_refl _, hl, fun _ => ⟨w.heap.size, 0, rfl, by simp, fun k _ => ?_⟩⟩
  have := (Blk.new w t (xs.map Value.bool).toArray).cell (0 + k)
  rw [this]
  simp
theorem Blk.put2 {w : World} {g : Nat} {t : TypeId} {x y : Value} (h : Blk w g t #[x, y]) (a b : Value) :
    ((w.setCell ⟨g, 0, none⟩ a).setCell ⟨g, 1, none⟩ b).cell? ⟨g, 0, none⟩ = some a ∧ ((w.setCell ⟨g, 0, none⟩ a).setCell ⟨g, 1, none⟩ b).cell? ⟨g, 1, none⟩ = some b := by
  have hs := (h.set_ 0 a).set_ 1 b
  exact ⟨by rw [hs.cell 0]; simp, by rw [hs.cell 1]; simp⟩
theorem below_put2 {B g : Nat} {w wr : World} (h : Below B w wr) (hg : B ≤ g) (a b : Value) : Below B w ((wr.setCell ⟨g, 0, none⟩ a).setCell ⟨g, 1, none⟩ b) :=
  (h.setCell (p := ⟨g, 0, none⟩) hg a).setCell (p := ⟨g, 1, none⟩) hg b
/-- Two blocks at the end of w, kept in wr. -/
theorem two_blks {w wr : World} {t t' : TypeId} {cs cs' : Array Value} (h : Below ((w.alloc (.cells cs t)).alloc (.cells cs' t')).heap.size ((w.alloc (.cells cs t)).alloc (.cells cs' t')) wr) :
    Blk wr w.heap.size t cs ∧ Blk wr (w.heap.size + 1) t' cs' ∧ Below w.heap.size w wr ∧ w.heap.size + 2 ≤ wr.heap.size := by
  refine ⟨((Blk.new w t cs).alloc _).keep h, ?_, below_next (below_alloc (below_new _ _) _) h, by have := h.size; simp at this; omega⟩
  have e : (w.alloc (.cells cs t)).heap.size = w.heap.size + 1 := by simp
  rw [← e]
  exact (Blk.new (w.alloc (.cells cs t)) t' cs').keep h
theorem grid_made (w : World) (t : TypeId) (vs : List Value) (xss : List (List Int)) {b : Nat} (hb : b = w.heap.size) (hl : vs.length ≤ maxLen) (hlen : vs.length = xss.length)
    (h : ∀ (k : Nat) (v : Value), vs[k]? = some v → ∃ (A' : Option Addr) (n' c' : Nat) (xs : List Int), v = Value.slice A' n' c' ∧ xss[k]? = some xs ∧ Ints w A' n' c' xs) : Grid (w.alloc (.cells vs.toArray t)) (some ⟨b, 0, none⟩) vs.length vs.length xss := by
  subst hb
  refine ⟨vs, ⟨rfl, Nat.le_refl _, hl, fun _ => ⟨w.heap.size, 0, rfl, by simp, fun k _ => ?_⟩⟩, hlen, fun k v hv => ?_⟩
  · have := (Blk.new w t vs.toArray).cell (0 + k)
    rw [this]
    simp
  · obtain ⟨A', n', c', xs, e, hx, hi⟩ := h k v hv
    exact ⟨A', n', c', xs, e, hx, hi.keep (below_new _ _)⟩
theorem grid1 {w : World} {A : Option Addr} {n c : Nat} {xs : List Int} (t : TypeId) {b : Nat} (hb : b = w.heap.size) (h : Ints w A n c xs) : Grid (w.alloc (.cells #[.slice A n c] t)) (some ⟨b, 0, none⟩) 1 1 [xs] :=
  grid_made w t [.slice A n c] [xs] hb (by simp [maxLen]) rfl fun k v hv => by
    match k with
    | 0 => simp at hv; subst hv; exact ⟨_, _, _, _, rfl, rfl, h⟩
    | k + 1 => simp at hv
theorem grid2 {w : World} {A A' : Option Addr} {n c n' c' : Nat} {xs ys : List Int} (t : TypeId) {b : Nat} (hb : b = w.heap.size) (h : Ints w A n c xs) (h' : Ints w A' n' c' ys) : Grid (w.alloc (.cells #[.slice A n c, .slice A' n' c'] t)) (some ⟨b, 0, none⟩) 2 2 [xs, ys] :=
  grid_made w t [.slice A n c, .slice A' n' c'] [xs, ys] hb (by simp [maxLen]) rfl fun k v hv => by
    match k with
    | 0 => simp at hv; subst hv; exact ⟨_, _, _, _, rfl, rfl, h⟩
    | 1 => simp at hv; subst hv; exact ⟨_, _, _, _, rfl, rfl, h'⟩
    | k + 2 => simp at hv
/-- The slice '.slice A n c' reads as the small numbers xs (uint16, uint8: at most b). -/
structure Smalls (k : IntKind) (b : Int) (w : World) (A : Option Addr) (n c : Nat) (xs : List Int) : Prop where
  sl : Sl w A n c (xs.map (Value.int k))
  wf : ∀ x ∈ xs, 0 ≤ x ∧ x ≤ b
theorem Smalls.len {k : IntKind} {b : Int} {w : World} {A : Option Addr} {n c : Nat} {xs : List Int} (h : Smalls k b w A n c xs) : xs.length = n := by simpa using h.sl.len
theorem Smalls.keep {k : IntKind} {b : Int} {w w' : World} {A : Option Addr} {n c : Nat} {xs : List Int} (h : Smalls k b w A n c xs) (hb : Below w.heap.size w w') : Smalls k b w' A n c xs := ⟨h.sl.keep hb, h.wf⟩
theorem Smalls.bd {k : IntKind} {b : Int} {w : World} {A : Option Addr} {n c : Nat} {xs : List Int} (h : Smalls k b w A n c xs) : n ≤ c ∧ c ≤ 9223372036854775807 := by
  have h1 := h.sl.le
  have h2 := h.sl.cap
  unfold maxLen at h2
  omega
theorem Smalls.round {kd : IntKind} {b0 : Int} {w : World} {A : Option Addr} {n c : Nat} {xs : List Int} (h : Smalls kd b0 w A n c xs) {k : Nat} (hk : k < n) :
    ∃ b off y, A = some ⟨b, off, none⟩ ∧ b < w.heap.size ∧ w.cell? ⟨b, off + k, none⟩ = some (.int kd y) ∧ 0 ≤ y ∧ y ≤ b0 ∧ Hid (xs[k]? = some y) := by
  obtain ⟨b, off, v, e, hb, hc, hv⟩ := h.sl.cell hk
  rw [List.getElem?_map, Option.map_eq_some_iff] at hv
  obtain ⟨y, hx, rfl⟩ := hv
  have hw := h.wf y (List.mem_of_getElem? hx)
  exact ⟨b, off, y, e, hb, hc, hw.1, hw.2, hx⟩
/-- A result that is a formula; what lay in the world lies unturned. -/
def RetCnf (vars : Int) (xss : List (List Int)) (w : World) (e : Ending) (w' : World) : Prop :=
  ∃ A n c, e = .returned (.agg #[.int .i64 vars, .slice A n c]) ∧ Grid w' A n c xss ∧ Below w.heap.size w w'
end Go.Proofs.YtlfgcblijfflfaaGreat
