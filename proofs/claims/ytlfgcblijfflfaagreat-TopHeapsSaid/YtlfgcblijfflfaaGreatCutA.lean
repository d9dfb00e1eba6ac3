/- A world cut at a height. Of no program. -/
import Derived.Test.YtlfgcblijfflfaaGreatBase
namespace Go.Proofs.YtlfgcblijfflfaaGreat
open Go.RowKit

def cutW (w : World) (h : Nat) : World := { w with heap := w.heap.extract 0 h }
section
variable {w w' : World} {h : Nat}
theorem cutW_size (hh : h ≤ w.heap.size) : (cutW w h).heap.size = h := by simp [cutW]; omega
theorem cutW_heap {k : Nat} (hk : k < h) : (cutW w h).heap[k]? = w.heap[k]? := by
  simp only [cutW, Array.getElem?_extract]
  by_cases hs : k < w.heap.size
  · rw [if_pos (by omega)]; simp
  · rw [if_neg (by omega), Array.getElem?_eq_none (by omega)]
theorem cutW_below (hh : h ≤ w.heap.size) : Below (cutW w h).heap.size (cutW w h) w := by
  refine ⟨rfl, rfl, rfl, by rw [cutW_size hh]; exact hh, fun k hk => ?_⟩
  rw [cutW_size hh] at hk
  exact (cutW_heap hk).symm
/-- What leaves the blocks below h alone leaves the cut world alone. -/
theorem cutW_keep (hh : h ≤ w.heap.size) (hb : Below h w w') : Below (cutW w h).heap.size (cutW w h) (cutW w' h) := by
  refine ⟨hb.os, hb.tape, hb.output, ?_, fun k hk => ?_⟩
  · rw [cutW_size hh, cutW_size (Nat.le_trans hh hb.size)]; exact Nat.le_refl _
  · rw [cutW_size hh] at hk
    rw [cutW_heap hk, cutW_heap hk]
    exact hb.block k hk
theorem cutW_grown {row : Option Nat} (hh : h ≤ w.heap.size) (hg : w.grownBy w' row) : (cutW w h).grownBy (cutW w' h) row := by
  refine ⟨hg.os, hg.tape, hg.output, ?_, fun k hk hne => ?_⟩
  · rw [cutW_size hh, cutW_size (Nat.le_trans hh hg.size)]; exact Nat.le_refl _
  · rw [cutW_size hh] at hk
    rw [cutW_heap hk, cutW_heap hk]
    exact hg.block k (by omega) hne
theorem cutW_top (w : World) : Below w.heap.size w (cutW w w.heap.size) := by
  refine ⟨rfl, rfl, rfl, by rw [cutW_size (Nat.le_refl _)]; exact Nat.le_refl _, fun k hk => cutW_heap hk⟩
end

end Go.Proofs.YtlfgcblijfflfaaGreat
