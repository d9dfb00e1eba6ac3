/- Contracts of the law's against, end. -/
import Derived.Test.YtabjbpkojbdgaaaSteps
import Derived.Test.YtabjbpkojbdgaaaWhy
namespace Go.Proofs.Ytabjbpkojbdgaaa
open Go.RowKit
set_option linter.unusedSimpArgs false

theorem grid3 {w : World} {A A' A'' : Option Addr} {n c n' c' n'' c'' : Nat} {xs ys zs : List Int} (t : TypeId) {b : Nat} (hb : b = w.heap.size) (h : Ints w A n c xs) (h' : Ints w A' n' c' ys) (h'' : Ints w A'' n'' c'' zs) : Grid (w.alloc (.cells #[.slice A n c, .slice A' n' c', .slice A'' n'' c''] t)) (some ⟨b, 0, none⟩) 3 3 [xs, ys, zs] :=
  grid_made w t [.slice A n c, .slice A' n' c', .slice A'' n'' c''] [xs, ys, zs] hb (by simp [maxLen]) rfl fun k v hv => by
    match k with
    | 0 => simp at hv; subst hv; exact ⟨_, _, _, _, rfl, rfl, h⟩
    | 1 => simp at hv; subst hv; exact ⟨_, _, _, _, rfl, rfl, h'⟩
    | 2 => simp at hv; subst hv; exact ⟨_, _, _, _, rfl, rfl, h''⟩
    | k + 3 => simp at hv
set_option maxHeartbeats 400000 in
theorem against_any (w : World) : Calls Try.prog 31 #[] w (RetCnf 2 [[1, 2], [-1], [-2]] w) := by
  go_enter Try.func31, Try.ntmps31
  go_wp2_with fail
  have h1 := ints_made (w.alloc (.cells #[.int .i64 2, .slice (some ⟨w.heap.size + 1 + 1 + 1 + 1, 0, none⟩) 3 3] 24)) 3 [1, 2] (b := w.heap.size + 1) (by simp) (by simp [I64]) (by decide)
  have h2 := ints_made ((w.alloc (.cells #[.int .i64 2, .slice (some ⟨w.heap.size + 1 + 1 + 1 + 1, 0, none⟩) 3 3] 24)).alloc (.cells #[.int .i64 1, .int .i64 2] 3)) 3 [-1] (b := w.heap.size + 1 + 1) (by simp) (by simp [I64]) (by decide)
  have h3 := ints_made (((w.alloc (.cells #[.int .i64 2, .slice (some ⟨w.heap.size + 1 + 1 + 1 + 1, 0, none⟩) 3 3] 24)).alloc (.cells #[.int .i64 1, .int .i64 2] 3)).alloc (.cells #[.int .i64 (-1)] 3)) 3 [-2] (b := w.heap.size + 1 + 1 + 1) (by simp) (by simp [I64]) (by decide)
  exact bodyPost_ret (v := .agg #[.int .i64 2, .slice (some ⟨w.heap.size + 1 + 1 + 1 + 1, 0, none⟩) 3 3]) (by simp [results, Try.results31, go_sem]) rfl
    ⟨_, _, _, rfl, grid3 25 (by simp) ((h1.keep (below_new _ _)).keep (below_new _ _)) (h2.keep (below_new _ _)) h3, below_alloc (below_alloc (below_alloc (below_alloc (below_new _ _) _) _) _) _⟩
/-- One step that learns the clause without literals. -/
theorem end_any (w : World) : Calls Try.prog 32 #[] w fun e w' => ∃ A n c, e = .returned (.slice A n c) ∧ Steps w' A n c [(1, [])] ∧ Below w.heap.size w w' := by
  go_enter Try.func32, Try.ntmps32
  go_wp2_with fail
  go_ret
  refine ⟨some ⟨w.heap.size, 0, none⟩, 1, 1, rfl, ⟨rfl, Nat.le_refl _, by simp [maxLen], fun _ => ⟨w.heap.size, 0, rfl, by simp, fun k r hk => ?_⟩, by simp [I64]⟩, below_new _ _⟩
  match k, hk with
  | 0, hk =>
    simp at hk
    subst hk
    exact ⟨none, 0, 0, none, 0, 0, 0, 0, 0, none, 0, 0, 0, 0, by simp [go_sem], by simp [go_sem], by simp [go_sem], by simp [go_sem], by simp [go_sem], by simp [go_sem], by simp [go_sem], by simp [go_sem], by simp [go_sem], ints_nil _⟩
  | k + 1, hk => simp at hk
theorem why_end : whyS 2 [[1, 2], [-1], [-2]] [(1, [])] = (-1, 0, 0) := by decide
end Go.Proofs.Ytabjbpkojbdgaaa
