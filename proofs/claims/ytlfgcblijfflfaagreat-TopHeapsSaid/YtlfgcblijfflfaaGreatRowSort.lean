/- A row of the call's own that slices.SortFunc has turned; no program in sight. -/
import Derived.Test.YtlfgcblijfflfaaGreatBoxes
import Derived.Sort.Grow
import Derived.Sort.Statements
import Derived.Shelf.GgSortFunc.Insertion
namespace Go.Proofs.YtlfgcblijfflfaaGreat
open Go.RowKit Go.Sort

variable {α : Type} [Inhabited α]
theorem sortWorld_heap (enc : α → Value) (w : World) (blk m : Nat) (d : Array α) (os : Array Obj) {cur : Array Value} {t : TypeId} (hh : w.heap[blk]? = some (.cells cur t (0, 0))) :
    (sortWorld enc w blk 0 m d os).heap[blk]? = some (.cells (putCells enc 0 d cur) t (0, 0)) := by
  have hlt := heap_lt hh
  unfold sortWorld
  rw [heap_grow_old _ _ (by simpa using hlt)]
  unfold putRow mapBlock
  simp [Array.getElem?_modify, hh, onCells]
theorem sortWorld_other (enc : α → Value) (w : World) (blk m : Nat) (d : Array α) (os : Array Obj) {k : Nat} (hk : k < w.heap.size) (hne : k ≠ blk) : (sortWorld enc w blk 0 m d os).heap[k]? = w.heap[k]? := by
  unfold sortWorld
  rw [heap_grow_old _ _ (by simpa using hk)]
  unfold putRow mapBlock
  have : blk ≠ k := fun e => hne e.symm
  simp [Array.getElem?_modify, this]
theorem sortWorld_grown (enc : α → Value) (w : World) (blk m : Nat) (d : Array α) (os : Array Obj) : w.grownBy (sortWorld enc w blk 0 m d os) (some blk) := by
  refine ⟨rfl, rfl, rfl, ?_, fun k hk hne => sortWorld_other enc w blk m d os hk (fun e => hne (by rw [e]))⟩
  unfold sortWorld
  simp
theorem putCells_take (enc : α → Value) (d : Array α) (cur : Array Value) (h : d.size ≤ cur.size) : (putCells enc 0 d cur).toList.take d.size = d.toList.map enc := by
  apply List.ext_getElem?
  intro k
  by_cases hk : k < d.size
  · rw [List.getElem?_take_of_lt hk]
    have h1 : k < cur.size := by omega
    simp [putCells, hk, h1]
  · rw [List.getElem?_eq_none (by simp [putCells]; omega), List.getElem?_eq_none (by simp; omega)]
/-- The row holds d' then. -/
theorem own_sorted {e : TypeId} {w : World} {base g n c m : Nat} {xs : List Value} (h : Own e w base (some ⟨g, 0, none⟩) n c xs) (enc : α → Value) (d' : Array α) (hd : d'.size = n) (os : Array Obj) :
    Own e (sortWorld enc w g 0 m d' os) base (some ⟨g, 0, none⟩) n c (d'.toList.map enc) := by
  rcases h.form with ⟨h0, _⟩ | ⟨g', cur, h0, hg, hh, h1, h2, h3, h4⟩
  · cases h0
  · cases h0
    refine ⟨by simp [hd], .inr ⟨g, c, putCells enc 0 d' cur, rfl, hg, sortWorld_heap enc w g m d' os hh, h1, h2, by simp [putCells, h3], ?_⟩⟩
    have := putCells_take enc d' cur (by omega)
    rw [hd] at this
    simpa using this
theorem holds_own {e : TypeId} {w : World} {base g n c : Nat} {xs : List Value} (h : Own e w base (some ⟨g, 0, none⟩) n c xs) (enc : α → Value) (d : Array α) (hd : d.toList.map enc = xs) : Holds enc w g 0 d := by
  have hn : d.size = n := by have := h.len; rw [← hd] at this; simpa using this
  intro j hj
  refine ⟨?_, World.ownsRow.frozenAt h (0 + j)⟩
  have h1 := h.sl.at_ (by omega)
  obtain ⟨b, off, e1, _, hc⟩ := h1
  cases e1
  rw [hc j (by omega), ← hd, List.getElem?_map]
  have : d.toList[j]? = some d[j]! := by simp [hj]
  rw [this]
  rfl
theorem permIn_list {d d' : Array α} {n : Nat} (hn : d.size = n) (h : PermIn 0 n d d') : d'.size = n ∧ d'.toList.Perm d.toList := by
  obtain ⟨h1, _, h3⟩ := h
  refine ⟨by omega, ?_⟩
  have e1 : d'.extract 0 n = d' := by rw [← hn, ← h1]; simp
  have e2 : d.extract 0 n = d := by rw [← hn]; simp
  rw [e1, e2] at h3
  exact h3
theorem sortedIn_list {lt : α → α → Bool} {d : Array α} {n : Nat} (hn : d.size = n) (h : SortedIn lt 0 n d) : d.toList.Pairwise (fun a b => lt b a = false) := by
  rw [List.pairwise_iff_getElem]
  intro i j hi hj hij
  have := h i j (Nat.zero_le _) hij (by simpa [hn] using hj)
  simp at hi hj
  simpa [hi, hj] using this
end Go.Proofs.YtlfgcblijfflfaaGreat
