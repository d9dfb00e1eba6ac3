/- Contracts of slices.Clone at ints, and of the reference's Same. -/
import Derived.Test.YtlfgcblijfflfaaGreatProg
import Derived.Test.YtlfgcblijfflfaaGreatOwn
import Derived.Test.YtlfgcblijfflfaaGreatPlain
namespace Go.Proofs.YtlfgcblijfflfaaGreat
open Go.RowKit

theorem int_info : (Tryz.prog.info? 3).map (fun i => (i.zero, i.size, i.bytes)) = some (some (.int .i64 0), 1, 8) := by kernel_rfl

/-- A result that is a row of ints of the call's own; what lay in the world lies unturned. -/
def RetInts (xs : List Int) (w : World) (e : Ending) (w' : World) : Prop :=
  ∃ A n c, e = .returned (.slice A n c) ∧ Own 3 w' w.heap.size A n c (xs.map (Value.int .i64)) ∧ Below w.heap.size w w'

theorem clone_ints (A : Option Addr) (n c : Nat) (xs : List Int) (w : World) (h : Ints w A n c xs) (hn : n ≤ 1000000) : Calls Tryz.prog 27 #[.slice A n c] w (RetInts xs w) := by
  have hnil := fun (w : World) (a : Option Addr) (n c : Nat) => Lib.run_eql_slice_nil (P := Tryz.prog) w 22 3 a n c 0 0 Tryz.underlying22
  obtain ⟨i0, hi0, hz0, hz1, hz2⟩ := info_parts int_info
  cases A with
  | none =>
    obtain rfl : n = 0 := by
      rcases Nat.eq_zero_or_pos n with h0 | h0
      · exact h0
      · obtain ⟨b, off, h, _⟩ := h.sl.at_ h0
        cases h
    obtain rfl : xs = [] := List.eq_nil_of_length_eq_zero h.len
    go_enter Tryz.func27, Tryz.ntmps27
    go_wp2_with fail
    go_ret
    exact ⟨none, 0, 0, rfl, Own.nil _ _ _, Below.refl _ _⟩
  | some a =>
    have hk := h.keep (below_new w (.cells #[] 3))
    go_enter Tryz.func27, Tryz.ntmps27
    go_wp2_with (first
      | (at_builtin
         refine wpList_append_sl _ rfl (.tmp 5) (.tmp 6) _ rfl w.heap.size 3 i0 _ 8 Tryz.underlying22 hi0 hz0 hz1 hz2 rfl (some ⟨w.heap.size, 0, none⟩) 0 0 [] rfl (own_empty _ _ _ rfl (Nat.le_refl _)) (some a) n c _ rfl hk.sl (ints_one _) (by simp only [maxLen]; omega) (by omega) (by simp) ?_
         intro B' d' w1 hown hg hat))
    go_ret
    exact ⟨B', _, d', rfl, by simpa using hown, below_grown (below_new _ _) (own_empty 3 w w.heap.size rfl (Nat.le_refl _)) (Nat.le_refl _) hg⟩

/-- Are two lists the same? -/
def sameB (xs ys : List Int) : Bool := xs == ys
def sameF : List Int → List Int → Bool
  | x :: t, y :: u => if x != y then false else sameF t u
  | _, _ => true
theorem sameF_eq : ∀ (xs ys : List Int), xs.length = ys.length → sameF xs ys = (xs == ys)
  | [], [], _ => rfl
  | [], _ :: _, h => by simp at h
  | _ :: _, [], h => by simp at h
  | x :: t, y :: u, h => by
    rw [sameF, sameF_eq t u (by simpa using h), List.cons_beq_cons]
    by_cases hxy : x = y
    · subst hxy; simp
    · simp [hxy]
theorem sameB_iff {xs ys : List Int} : sameB xs ys = true ↔ xs = ys := by simp [sameB]

end Go.Proofs.YtlfgcblijfflfaaGreat
