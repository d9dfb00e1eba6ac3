/- Contract of slices.Clone at bools. -/
import Derived.Test.YtecgmgidfjbamaaProg
import Derived.Test.YtecgmgidfjbamaaOwn
import Derived.Test.YtecgmgidfjbamaaPlain
namespace Go.Proofs.Ytecgmgidfjbamaa
open Go.RowKit

theorem bool_info : (Try.prog.info? 4).map (fun i => (i.zero, i.size, i.bytes)) = some (some (.bool false), 1, 1) := by kernel_rfl

/-- A result that is a row of bools of the call's own; what lay in the world lies unturned. -/
def RetBools (xs : List Bool) (w : World) (e : Ending) (w' : World) : Prop :=
  ∃ A n c, e = .returned (.slice A n c) ∧ Own 4 w' w.heap.size A n c (xs.map Value.bool) ∧ Below w.heap.size w w'

theorem clone_bools (A : Option Addr) (n c : Nat) (xs : List Bool) (w : World) (h : Bools w A n c xs) (hn : n ≤ 1000000) : Calls Try.prog 70 #[.slice A n c] w (RetBools xs w) := by
  have hnil := fun (w : World) (a : Option Addr) (n c : Nat) => Lib.run_eql_slice_nil (P := Try.prog) w 38 4 a n c 0 0 Try.underlying38
  obtain ⟨i0, hi0, hz0, hz1, hz2⟩ := info_parts bool_info
  cases A with
  | none =>
    obtain rfl : n = 0 := by
      rcases Nat.eq_zero_or_pos n with h0 | h0
      · exact h0
      · obtain ⟨b, off, h, _⟩ := Sl.at_ h h0
        cases h
    obtain rfl : xs = [] := List.eq_nil_of_length_eq_zero h.len
    go_enter Try.func70, Try.ntmps70
    go_wp2_with fail
    go_ret
    exact ⟨none, 0, 0, rfl, Own.nil _ _ _, Below.refl _ _⟩
  | some a =>
    have hk := Bools.keep h (below_new w (.cells #[] 4))
    go_enter Try.func70, Try.ntmps70
    go_wp2_with (first
      | (at_builtin
         refine wpList_append_sl _ rfl (.tmp 5) (.tmp 6) _ rfl w.heap.size 4 i0 _ 1 Try.underlying38 hi0 hz0 hz1 hz2 rfl (some ⟨w.heap.size, 0, none⟩) 0 0 [] rfl (own_empty _ _ _ rfl (Nat.le_refl _)) (some a) n c _ rfl hk (bools_one _) (by simp only [maxLen]; omega) (by omega) (by simp) ?_
         intro B' d' w1 hown hg hat))
    go_ret
    exact ⟨B', _, d', rfl, by simpa using hown, below_grown (below_new _ _) (own_empty 4 w w.heap.size rfl (Nat.le_refl _)) (Nat.le_refl _) hg⟩
end Go.Proofs.Ytecgmgidfjbamaa
