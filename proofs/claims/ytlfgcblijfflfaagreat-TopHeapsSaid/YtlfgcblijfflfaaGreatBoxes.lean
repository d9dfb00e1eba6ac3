/- Boxes behind a call; small words for the laws' walks. -/
import Derived.Test.YtlfgcblijfflfaaGreatBase
import Derived.Test.YtlfgcblijfflfaaGreatGrid
namespace Go.Proofs.YtlfgcblijfflfaaGreat
open Go.RowKit
theorem blk1 {w wr : World} {t : TypeId} {cs : Array Value} (h : Below (w.alloc (.cells cs t)).heap.size (w.alloc (.cells cs t)) wr) : Blk wr w.heap.size t cs ∧ Below w.heap.size w wr ∧ w.heap.size + 1 ≤ wr.heap.size :=
  ⟨(Blk.new w t cs).keep h, below_next (below_new _ _) h, by have := h.size; simp at this; omega⟩
theorem blk3 {w wr : World} {t t' t'' : TypeId} {cs cs' cs'' : Array Value} (h : Below (((w.alloc (.cells cs t)).alloc (.cells cs' t')).alloc (.cells cs'' t'')).heap.size (((w.alloc (.cells cs t)).alloc (.cells cs' t')).alloc (.cells cs'' t'')) wr) :
    Blk wr w.heap.size t cs ∧ Blk wr (w.heap.size + 1) t' cs' ∧ Blk wr (w.heap.size + 1 + 1) t'' cs'' ∧ Below w.heap.size w wr ∧ w.heap.size + 3 ≤ wr.heap.size := by
  refine ⟨(((Blk.new w t cs).alloc _).alloc _).keep h, ?_, ?_, below_next (below_alloc (below_alloc (below_new _ _) _) _) h, by have := h.size; simp at this; omega⟩
  · have := ((Blk.new (w.alloc (.cells cs t)) t' cs').alloc (.cells cs'' t'')).keep h
    simpa using this
  · have := (Blk.new ((w.alloc (.cells cs t)).alloc (.cells cs' t')) t'' cs'').keep h
    simpa using this
theorem Own.ltb {w : World} {e : TypeId} {base n c k : Nat} {A : Option Addr} {xs : List Value} (h : Own e w base A n c xs) (hk : w.heap.size ≤ k) : blockOf A ≠ some k := by
  rcases h.form with ⟨rfl, _⟩ | ⟨g, cur, rfl, _, hh, _⟩
  · simp [blockOf]
  · have := heap_lt hh
    simp [blockOf]
    omega
theorem Own.geb {w : World} {e : TypeId} {base n c k : Nat} {A : Option Addr} {xs : List Value} (h : Own e w base A n c xs) (hk : k < base) : blockOf A = none ∨ blockOf A ≠ some k := by
  rcases h.form with ⟨rfl, _⟩ | ⟨g, cur, rfl, hg, _⟩
  · exact .inl rfl
  · right
    simp [blockOf]
    omega
theorem ne_symm' {a b : Option Nat} (h : a = none ∨ a ≠ b) : b = none ∨ b ≠ a := by
  rcases h with h | h
  · subst h; cases b <;> simp
  · exact .inr fun e => h e.symm
theorem below_drew1 {w w1 : World} {B : Nat} (h : Below B w w1) : Below B w w1.drew := ⟨h.1, h.2, h.3, h.4, h.5⟩
theorem Sl.drew1 {w : World} {A : Option Addr} {n c : Nat} {xs : List Value} (h : Sl w A n c xs) : Sl w.drew A n c xs := h.keep (below_drewN w 1)
theorem Own.drew1 {e : TypeId} {w : World} {base n c : Nat} {A : Option Addr} {xs : List Value} (h : Own e w base A n c xs) : Own e w.drew base A n c xs := h.keep (below_drewN w 1)
/-- What lies there is stored there: nothing turns. -/
theorem setCell_id {w : World} {g i : Nat} {t : TypeId} {cs : Array Value} {v : Value} (h : Blk w g t cs) (hi : cs[i]? = some v) : w.setCell ⟨g, i, none⟩ v = w := by
  unfold Blk at h
  have hs : cs.setIfInBounds i v = cs := by
    apply Array.ext_getElem?
    intro k
    by_cases hk : i = k
    · subst hk
      have := (Array.getElem?_eq_some_iff.1 hi).1
      rw [Array.getElem?_setIfInBounds_self_of_lt this, hi]
    · rw [Array.getElem?_setIfInBounds_ne hk]
  have hh : (w.setCell ⟨g, i, none⟩ v).heap = w.heap := by
    apply Array.ext_getElem?
    intro k
    by_cases hk : g = k
    · subst hk
      simp [World.setCell, Array.getElem?_modify, h, hs]
    · simp [World.setCell, Array.getElem?_modify, hk]
  unfold World.setCell at hh ⊢
  simp only at hh
  rw [hh]
theorem ints_nil (w : World) : Ints w none 0 0 [] := ⟨⟨rfl, Nat.le_refl _, Nat.zero_le _, fun h => by omega⟩, by simp⟩
end Go.Proofs.YtlfgcblijfflfaaGreat
