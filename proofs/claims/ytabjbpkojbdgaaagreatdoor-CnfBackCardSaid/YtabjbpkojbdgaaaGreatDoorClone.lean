/- Contracts of slices.Clone at ints, and of the reference's Same. -/
import Derived.Test.YtabjbpkojbdgaaaGreatDoorProg
import Derived.Test.YtabjbpkojbdgaaaGreatDoorOwn
import Derived.Test.YtabjbpkojbdgaaaGreatDoorPlain
namespace Go.Proofs.YtabjbpkojbdgaaaGreatDoor
open Go.RowKit

theorem int_info : (Tryz.prog.info? 3).map (fun i => (i.zero, i.size, i.bytes)) = some (some (.int .i64 0), 1, 8) := by kernel_rfl

/-- A result that is a row of ints of the call's own; what lay in the world lies unturned. -/
def RetInts (xs : List Int) (w : World) (e : Ending) (w' : World) : Prop :=
  ∃ A n c, e = .returned (.slice A n c) ∧ Own 3 w' w.heap.size A n c (xs.map (Value.int .i64)) ∧ Below w.heap.size w w'

theorem clone_ints (A : Option Addr) (n c : Nat) (xs : List Int) (w : World) (h : Ints w A n c xs) (hn : n ≤ 1000000) : Calls Tryz.prog 42 #[.slice A n c] w (RetInts xs w) := by
  have hnil := fun (w : World) (a : Option Addr) (n c : Nat) => Lib.run_eql_slice_nil (P := Tryz.prog) w 44 3 a n c 0 0 Tryz.underlying44
  obtain ⟨i0, hi0, hz0, hz1, hz2⟩ := info_parts int_info
  cases A with
  | none =>
    obtain rfl : n = 0 := by
      rcases Nat.eq_zero_or_pos n with h0 | h0
      · exact h0
      · obtain ⟨b, off, h, _⟩ := h.sl.at_ h0
        cases h
    obtain rfl : xs = [] := List.eq_nil_of_length_eq_zero h.len
    go_enter Tryz.func42, Tryz.ntmps42
    go_wp2_with fail
    go_ret
    exact ⟨none, 0, 0, rfl, Own.nil _ _ _, Below.refl _ _⟩
  | some a =>
    have hk := h.keep (below_new w (.cells #[] 3))
    go_enter Tryz.func42, Tryz.ntmps42
    go_wp2_with (first
      | (at_builtin
         refine wpList_append_sl _ rfl (.tmp 5) (.tmp 6) _ rfl w.heap.size 3 i0 _ 8 Tryz.underlying44 hi0 hz0 hz1 hz2 rfl (some ⟨w.heap.size, 0, none⟩) 0 0 [] rfl (own_empty _ _ _ rfl (Nat.le_refl _)) (some a) n c _ rfl hk.sl (ints_one _) (by simp only [maxLen]; omega) (by omega) (by simp) ?_
         intro B' d' w1 hown hg hat))
    go_ret
    exact ⟨B', _, d', rfl, by simpa using hown, below_grown (below_new _ _) (own_empty 3 w w.heap.size rfl (Nat.le_refl _)) (Nat.le_refl _) hg⟩

/-- Are two lists the same? -/
def sameB (xs ys : List Int) : Bool := xs == ys
def sameF : List Int → List Int → Bool
  | x :: t, y :: u => if x != y then false else sameF t u
  | _, _ => true
theorem sameF_eq : ∀ (xs ys : List Int), xs.length = ys.length → sameF xs ys = (xs == ys)
  | [], [], _ => rfl
  | [], _ :: _, h => by simp at h
  | _ :: _, [], h => by simp at h
  | x :: t, y :: u, h => by
    rw [sameF, sameF_eq t u (by simpa using h), List.cons_beq_cons]
    by_cases hxy : x = y
    · subst hxy; simp
    · simp [hxy]
theorem sameB_iff {xs ys : List Int} : sameB xs ys = true ↔ xs = ys := by simp [sameB]

set_option maxHeartbeats 400000 in
theorem same_any (A B : Option Addr) (n c m d : Nat) (xs ys : List Int) (w : World) (h : Ints w A n c xs) (h' : Ints w B m d ys) (r : Bool) (hr : Hid (sameB xs ys = r)) :
    Calls Tryz.prog 32 #[.slice A n c, .slice B m d] w (RetQ (.bool r) w) := by
  have hbd := h.bd
  have hbd' := h'.bd
  have hl := Lib.hid h.len
  have hl' := Lib.hid h'.len
  by_cases hnm : n = m
  · subst hnm
    have hr' : Hid (sameF xs ys = r) := by rw [sameF_eq _ _ (by rw [hl.out, hl'.out])]; exact hr
    have d1 : ((n : Int) != (n : Int)) = false := by simp
    go_enter Tryz.func32, Tryz.ntmps32
    go_wp2_with fail
    go_loopw [5] (fun i wr => ∃ k : Nat, k ≤ n ∧ i = .int .i64 k ∧ Hid (sameF (xs.drop k) (ys.drop k) = r) ∧ Hid (∃ m, wr = w.drewN m)) (fun i _ => n - (intOf i).toNat)
    case atStart => exact ⟨0, Nat.zero_le _, rfl, hr'.out, ⟨0, rfl⟩⟩
    case round =>
      obtain ⟨k, hk, rfl, hn, hB⟩ := hrel
      have hx : Ints wr A n c xs := by obtain ⟨m, rfl⟩ := hB.out; exact h.drewN m
      have hx' : Ints wr B n d ys := by obtain ⟨m, rfl⟩ := hB.out; exact h'.drewN m
      by_cases hlt : k < n
      · obtain ⟨b, off, x, rfl, hb, hcell, _, _, hy⟩ := hx.round hlt
        obtain ⟨b', off', y, rfl, hb', hcell', _, _, hy'⟩ := hx'.round hlt
        have hn2 : Hid ((if x != y then false else sameF (xs.drop (k + 1)) (ys.drop (k + 1))) = r) := by
          have := hn.out
          rw [drop_cons_of hy.out, drop_cons_of hy'.out, sameF] at this
          exact this
        have z4 : (k : Int) < (n : Int) := by omega
        have z5 : (0 : Int) ≤ (k : Int) := by omega
        cases hxy : (x != y)
        · go_wp2_with fail
          go_quiet (fail)
          go_wp2_with fail
          go_roundw
          case rel => exact ⟨k + 1, by omega, by go_num, by have := hn2.out; rw [hxy] at this; exact this, by obtain ⟨m, rfl⟩ := hB.out; exact ⟨_, World.drewN_drewN _ _ _⟩⟩
          case measure => simp [intOf]; omega
        · have : false = r := by rw [← hn2.out, hxy]; rfl
          subst this
          go_wp2_with fail
          go_quiet (fail)
          go_wp2_with fail
          go_ret
          obtain ⟨m2, rfl⟩ := hB.out
          rw [World.drewN_drewN]
          exact RetQ.of _ rfl
      · have : true = r := by
          rw [← hn.out, List.drop_of_length_le (by have := hl.out; omega)]; rfl
        subst this
        go_wp2_with fail
        go_ret
        obtain ⟨m2, rfl⟩ := hB.out
        exact RetQ.of _ rfl
  · have : false = r := by
      rw [← hr.out]
      symm
      rw [Bool.eq_false_iff]
      intro e
      have := sameB_iff.1 e
      rw [this, hl'.out] at hl
      exact hnm hl.out.symm
    subst this
    have d1 : ((n : Int) != (m : Int)) = true := by simp; omega
    go_enter Tryz.func32, Tryz.ntmps32
    go_wp2_with fail
    go_ret
    exact RetQ.of0 rfl
end Go.Proofs.YtabjbpkojbdgaaaGreatDoor
