/- Cells of a block that are written in a row. -/
import Derived.Test.YtlfgcblijfflfaaGreatOwn
import Derived.Lib.SliceRun
import Derived.Deep.Upon
import Derived.Shelf.SlSortFuncK.RowK2
namespace Go.Proofs.YtlfgcblijfflfaaGreat
open Go.RowKit

theorem grown_setCells (w : World) (g o : Nat) (l : List Value) : w.grownBy (w.setCells g o l) (some g) :=
  ⟨World.os_setCells w g o l, by
    have : ∀ (l : List Value) (o : Nat) (w : World), (w.setCells g o l).tape = w.tape := by
      intro l
      induction l with
      | nil => intro o w; rfl
      | cons v r ih => intro o w; rw [World.setCells, ih]; rfl
    exact this l o w, World.output_setCells w g o l, by simp, fun k hk hne => World.heap_setCells_other w g o l hk (fun e => hne (by rw [e]))⟩
theorem heap_setCells (g : Nat) : ∀ (l : List Value) (o : Nat) (w : World) {cur : Array Value} {t : TypeId} {fz : Nat × Nat}, w.heap[g]? = some (.cells cur t fz) → ∃ cur' : Array Value, (w.setCells g o l).heap[g]? = some (.cells cur' t fz) ∧ cur'.size = cur.size ∧ ∀ k, k < o → cur'[k]? = cur[k]?
  | [], _, _, cur, _, _, h => ⟨cur, h, rfl, fun _ _ => rfl⟩
  | v :: r, o, w, cur, t, fz, h => by
    have h1 : (w.setCell ⟨g, o, none⟩ v).heap[g]? = some (.cells (cur.setIfInBounds o v) t fz) := by simp [World.setCell, Array.getElem?_modify, h]
    obtain ⟨cur', h2, h3, h4⟩ := heap_setCells g r (o + 1) _ h1
    refine ⟨cur', h2, by rw [h3]; simp, fun k hk => ?_⟩
    rw [h4 k (by omega), Array.getElem?_setIfInBounds_ne (by omega)]
end Go.Proofs.YtlfgcblijfflfaaGreat
