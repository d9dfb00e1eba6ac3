/- Contract of slices.Clone at rows. -/
import Derived.Test.YtlfgcblijfflfaaGreatClone
import Derived.Test.YtlfgcblijfflfaaGreatPool
namespace Go.Proofs.YtlfgcblijfflfaaGreat
open Go.RowKit

theorem row_info : (Tryz.prog.info? 22).map (fun i => (i.zero, i.size, i.bytes)) = some (some (.slice none 0 0), 1, 24) := by kernel_rfl
theorem row_ne : (3 : TypeId) ≠ 22 := by decide

/-- A slice of rows of the call's own; the rows lay there before, or are ints' blocks; what lay in the world lies unturned. -/
def RetRowsP (low : Nat) (xss : List (List Int)) (w : World) (e : Ending) (w' : World) : Prop :=
  ∃ A n c, e = .returned (.slice A n c) ∧ OwnP 22 3 w' w.heap.size low A n c xss ∧ Below w.heap.size w w'

end Go.Proofs.YtlfgcblijfflfaaGreat
