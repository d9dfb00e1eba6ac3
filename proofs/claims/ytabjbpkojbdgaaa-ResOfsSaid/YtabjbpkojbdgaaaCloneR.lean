/- Contract of slices.Clone at rows. -/
import Derived.Test.YtabjbpkojbdgaaaClone
import Derived.Test.YtabjbpkojbdgaaaPool
namespace Go.Proofs.Ytabjbpkojbdgaaa
open Go.RowKit

theorem row_info : (Try.prog.info? 25).map (fun i => (i.zero, i.size, i.bytes)) = some (some (.slice none 0 0), 1, 24) := by kernel_rfl
theorem row_ne : (3 : TypeId) ≠ 25 := by decide

/-- A slice of rows of the call's own; the rows lay there before, or are ints' blocks; what lay in the world lies unturned. -/
def RetRowsP (low : Nat) (xss : List (List Int)) (w : World) (e : Ending) (w' : World) : Prop :=
  ∃ A n c, e = .returned (.slice A n c) ∧ OwnP 25 3 w' w.heap.size low A n c xss ∧ Below w.heap.size w w'

theorem clone_rows (A : Option Addr) (n c low : Nat) (xss : List (List Int)) (w : World) (vs : List Value) (hs : Sl w A n c vs) (h : RowsP 3 w low vs xss) (hn : n ≤ 1000000) (hlow : low ≤ w.heap.size) : Calls Try.prog 64 #[.slice A n c] w (RetRowsP low xss w) := by
  have hnil := fun (w : World) (a : Option Addr) (n c : Nat) => Lib.run_eql_slice_nil (P := Try.prog) w 22 25 a n c 0 0 Try.underlying22
  obtain ⟨i0, hi0, hz0, hz1, hz2⟩ := info_parts row_info
  cases A with
  | none =>
    obtain rfl : n = 0 := by
      rcases Nat.eq_zero_or_pos n with h0 | h0
      · exact h0
      · obtain ⟨b, off, h, _⟩ := hs.at_ h0
        cases h
    obtain rfl : vs = [] := List.eq_nil_of_length_eq_zero hs.len
    obtain rfl : xss = [] := List.eq_nil_of_length_eq_zero (by rw [← h.1]; rfl)
    go_enter Try.func64, Try.ntmps64
    go_wp2_with fail
    go_ret
    exact ⟨none, 0, 0, rfl, OwnP.nil _ _ _ _ _, Below.refl _ _⟩
  | some a =>
    have hk := hs.keep (below_new w (.cells #[] 25))
    have H := Lib.hid h
    clear h
    go_enter Try.func64, Try.ntmps64
    go_wp2_with (first
      | (at_builtin
         refine wpList_append_sl _ rfl (.tmp 5) (.tmp 6) _ rfl w.heap.size 25 i0 _ 24 Try.underlying22 hi0 hz0 hz1 hz2 rfl (some ⟨w.heap.size, 0, none⟩) 0 0 [] rfl (own_empty _ _ _ rfl (Nat.le_refl _)) (some a) n c _ rfl hk H.out.one (by simp only [maxLen]; omega) (by omega) (by simp) ?_
         intro B' d' w1 hown hg hat))
    go_ret
    have hown' : Own 25 w1 w.heap.size B' n d' vs := by simpa using hown
    refine ⟨B', _, d', rfl, ⟨vs, hown', ?_⟩, below_grown (below_new _ _) (own_empty 25 w w.heap.size rfl (Nat.le_refl _)) (Nat.le_refl _) hg⟩
    exact (H.out.keep (below_new w (.cells #[] 25))).kept hg (own_rows (own_empty 25 w w.heap.size rfl (Nat.le_refl _)) hlow) row_ne
end Go.Proofs.Ytabjbpkojbdgaaa
