/- Contracts of cnf.Holds, of the reference's With, and of the law's pair. -/
import Derived.Test.YtabjbpkojbdgaaaDoorCnfB
import Derived.Test.YtabjbpkojbdgaaaDoorSat
namespace Go.Proofs.YtabjbpkojbdgaaaDoor
open Go.RowKit

def withR (vars : Int) (xss : List (List Int)) (m : Nat) : Int × Int :=
  if (checkC vars xss).1 ≠ 0 then checkC vars xss else if (m : Int) ≠ vars then (9, -1) else (0, 0)

set_option maxHeartbeats 400000 in
theorem pair_any (w : World) : Calls Tryd.prog 11 #[] w (RetCnf 2 [[1, 2], [-1]] w) := by
  go_enter Tryd.func11, Tryd.ntmps11
  go_wp2_with fail
  have h1 := ints_made (w.alloc (.cells #[.int .i64 2, .slice (some ⟨w.heap.size + 1 + 1 + 1, 0, none⟩) 2 2] 24)) 3 [1, 2] (b := w.heap.size + 1) (by simp) (by simp [I64]) (by decide)
  have h2 := ints_made ((w.alloc (.cells #[.int .i64 2, .slice (some ⟨w.heap.size + 1 + 1 + 1, 0, none⟩) 2 2] 24)).alloc (.cells #[.int .i64 1, .int .i64 2] 3)) 3 [-1] (b := w.heap.size + 1 + 1) (by simp) (by simp [I64]) (by decide)
  exact bodyPost_ret (v := .agg #[.int .i64 2, .slice (some ⟨w.heap.size + 1 + 1 + 1, 0, none⟩) 2 2]) (by simp [results, Tryd.results11, go_sem]) rfl
    ⟨_, _, _, rfl, grid2 46 (by simp) (h1.keep (below_new _ _)) h2, below_alloc (below_alloc (below_alloc (below_new _ _) _) _) _⟩

end Go.Proofs.YtabjbpkojbdgaaaDoor
