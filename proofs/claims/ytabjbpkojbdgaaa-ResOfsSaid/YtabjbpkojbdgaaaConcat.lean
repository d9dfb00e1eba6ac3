/- Contracts of slices.Grow at nil and slices.Concat, at ints. -/
import Derived.Test.YtabjbpkojbdgaaaClone
import Derived.Test.YtabjbpkojbdgaaaGrid
import Derived.Lib.AppendZeros
namespace Go.Proofs.Ytabjbpkojbdgaaa
open Go.RowKit

set_option maxHeartbeats 400000 in
theorem grow_nil (n : Nat) (w : World) (hn : n ≤ 1000000) : Calls Try.prog 126 #[.slice none 0 0, .int .i64 n] w (RetInts [] w) := by
  obtain ⟨i0, hi0, hz0, hz1, hz2⟩ := info_parts int_info
  have h0 : ¬ (n : Int) < 0 := by omega
  have h1 : (n : Int) - (0 - 0) = (n : Int) := by omega
  by_cases hpos : 0 < n
  · have hrun := fun ty => Lib.run_append_nil_zeros (P := Try.prog) w 25 3 ty 3 i0 (.int .i64 0) .i64 .i64 Try.underlying25 Try.underlying3 hi0 hz0 n hpos (by omega) (by omega) (by rw [hz2]; omega)
    have h2 : (0 : Int) < (n : Int) := by omega
    have hge := grownCap_ge w n 0 3
    have hle := grownCap_le_maxLen w n 0 3 (by simp only [maxLen]; omega)
    generalize hG : grownCap w n 0 3 = G at *
    simp only [maxLen] at hle
    have HR := Lib.hid hrun
    clear hrun
    go_enter Try.func126, Try.ntmps126
    go_wp2_with (at_builtin; refine Lib.wpList_append_run _ rfl (.tmp 20) (.tmp 21) _ _ rfl _ _ rfl rfl _ _ (HR.out _) ?_)
    go_ret
    refine ⟨_, _, _, rfl, ?_, ?_⟩
    · exact World.ownsRow_made w.drew _ G (Nat.le_refl _) (by simp only [maxLen]; omega) (by simp [Builtin.zeroCells]; omega)
    · exact below_alloc (below_drewN w 1) _
  · obtain rfl : n = 0 := by omega
    go_enter Try.func126, Try.ntmps126
    go_wp2_with fail
    go_ret
    exact ⟨none, 0, 0, rfl, Own.nil _ _ _, Below.refl _ _⟩

theorem flatten_take_len {xss : List (List Int)} {k : Nat} {xs : List Int} (h : xss[k]? = some xs) : (xss.take (k + 1)).flatten = (xss.take k).flatten ++ xs := by
  rw [take_snoc_of h]; simp
theorem flatten_take_le (xss : List (List Int)) (k : Nat) : (xss.take k).flatten.length ≤ xss.flatten.length := by
  have : xss.flatten = (xss.take k).flatten ++ (xss.drop k).flatten := by rw [← List.flatten_append, List.take_append_drop]
  rw [this, List.length_append]; omega

set_option maxHeartbeats 1000000 in
theorem concat_ints (A : Option Addr) (n c : Nat) (xss : List (List Int)) (w : World) (h : Grid w A n c xss) (hn : xss.flatten.length ≤ 1000000) :
    Calls Try.prog 111 #[.slice A n c] w (RetInts xss.flatten w) := by
  obtain ⟨i0, hi0, hz0, hz1, hz2⟩ := info_parts int_info
  have hbd := h.bd
  have hl := Lib.hid h.len
  have HN := Lib.hid hn
  clear hn
  go_enter Try.func111, Try.ntmps111
  go_wp2_with fail
  go_loopw [3, 11] (fun sz i wr => ∃ (k z : Nat), k ≤ n ∧ z ≤ 1000000 ∧ sz = .int .i64 z ∧ i = .int .i64 k ∧ Hid (z = (xss.take k).flatten.length) ∧ Hid (wr = w)) (fun _ i _ => n - (intOf i).toNat)
  case atStart => exact ⟨0, 0, Nat.zero_le _, Nat.zero_le _, rfl, rfl, rfl, rfl⟩
  case round =>
    obtain ⟨k, z, hk, hz, rfl, rfl, hsz, hw⟩ := hrel
    obtain rfl : w = wr := hw.out.symm
    by_cases hlt : k < n
    · obtain ⟨b, off, A', n', c', xs, rfl, hb, hcell, hi, hy⟩ := h.round hlt
      have hbd' := hi.bd
      have hzz : z + n' ≤ 1000000 := by
        have h1 := flatten_take_le xss (k + 1)
        rw [flatten_take_len hy.out, List.length_append, hi.len, ← hsz.out] at h1
        have := HN.out
        omega
      have d1 : ¬ (z : Int) + (n' : Int) < 0 := by omega
      go_wp2_with fail
      go_roundw
      case rel => exact ⟨k + 1, z + n', by omega, hzz, by go_num, by go_num, by rw [flatten_take_len hy.out, List.length_append, hi.len, ← hsz.out]; rfl, by trivial⟩
      case measure => simp [intOf]; omega
    · go_wp2_with fail
      refine (grow_nil z _ hz).mono ?_
      rintro e w1 ⟨A1, n1, c1, rfl, hown, hb1⟩
      have hg1 := h.keep hb1
      obtain rfl : n1 = 0 := by have := hown.sl.len; simpa using this.symm
      have HO := Lib.hid hown
      clear hown
      go_wp2_with fail
      go_loopw [6, 27] (fun sl i wr => ∃ (k m cm : Nat) (M : Option Addr), k ≤ n ∧ sl = .slice M m cm ∧ i = .int .i64 k ∧ Hid (Own 3 wr w.heap.size M m cm ((xss.take k).flatten.map (Value.int .i64))) ∧ Hid (Below w.heap.size w wr)) (fun _ i _ => n - (intOf i).toNat)
      case atStart => exact ⟨0, 0, c1, A1, Nat.zero_le _, rfl, rfl, HO, hb1⟩
      case round =>
        obtain ⟨k, m, cm, M, hk, rfl, rfl, hown, hB⟩ := hrel
        have hml := Lib.hid hown.out.sl.len
        have h2 := h.keep hB.out
        by_cases hlt : k < n
        · obtain ⟨b, off, A', n', c', xs, rfl, hb, hcell, hi, hy⟩ := h2.round hlt
          have hbd' := hi.bd
          have hzz : m + n' ≤ 1000000 := by
            have h1 := flatten_take_le xss (k + 1)
            rw [flatten_take_len hy.out, List.length_append, hi.len] at h1
            have := HN.out
            have hml := hml.out
            simp only [List.length_map] at hml
            omega
          go_wp2_with (first
            | (at_builtin
               refine wpList_append_sl _ rfl (.tmp 31) (.tmp 32) _ rfl w.heap.size 3 i0 _ 8 Try.underlying25 hi0 hz0 hz1 hz2 rfl M m cm _ rfl hown.out A' n' c' _ rfl hi.sl (ints_one _) (by simp only [maxLen]; omega) (by omega) (by have := hB.out.size; omega) ?_
               intro L1 cL1 w5 hL1 hg1 hat1
               have HL1 := Lib.hid hL1
               have HB5 := Lib.hid (below_grown hB.out hown.out (Nat.le_refl _) hg1)
               clear hL1 hg1 hat1))
          go_roundw
          case rel => exact ⟨k + 1, m + n', cL1, L1, by omega, rfl, by go_num, by rw [flatten_take_len hy.out, List.map_append]; exact HL1.out, HB5⟩
          case measure => simp [intOf]; omega
        · go_wp2_with fail
          go_ret
          have := hown.out
          rw [List.take_of_length_le (by rw [hl.out]; omega)] at this
          exact ⟨M, m, cm, rfl, this, hB.out⟩
end Go.Proofs.Ytabjbpkojbdgaaa
