/- A new slice of one triple. -/
import Derived.Test.YtecgmgidfjbamaaTrips
namespace Go.Proofs.Ytecgmgidfjbamaa
open Go.RowKit
/-- A new block of one triple. -/
theorem trip1 (w : World) (t : TypeId) (x y z : Int) {b : Nat} (hb : b = w.heap.size) (h : I64 x ∧ I64 y ∧ I64 z) : Trips (w.alloc (.cells #[.int .i64 x, .int .i64 y, .int .i64 z] t)) (some ⟨b, 0, none⟩) 1 1 [(x, y, z)] := by
  subst hb
  refine ⟨rfl, Nat.le_refl _, by simp [maxLen], fun _ => ⟨w.heap.size, 0, rfl, by simp, fun k r hk => ?_⟩, by simpa using h⟩
  match k, hk with
  | 0, hk =>
    simp at hk
    subst hk
    have hB := Blk.new w t #[.int .i64 x, .int .i64 y, .int .i64 z]
    exact ⟨by rw [hB.cell]; rfl, by rw [hB.cell]; rfl, by rw [hB.cell]; rfl⟩
  | k + 1, hk => simp at hk
end Go.Proofs.Ytecgmgidfjbamaa
