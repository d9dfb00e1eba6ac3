/- Contracts of slices.Clone at ints, and of the reference's Same. -/
import Derived.Test.YtabjbpkojbdgaaaDoorProg
import Derived.Test.YtabjbpkojbdgaaaDoorOwn
import Derived.Test.YtabjbpkojbdgaaaDoorPlain
namespace Go.Proofs.YtabjbpkojbdgaaaDoor
open Go.RowKit

theorem int_info : (Tryd.prog.info? 3).map (fun i => (i.zero, i.size, i.bytes)) = some (some (.int .i64 0), 1, 8) := by kernel_rfl

/-- A result that is a row of ints of the call's own; what lay in the world lies unturned. -/
def RetInts (xs : List Int) (w : World) (e : Ending) (w' : World) : Prop :=
  ∃ A n c, e = .returned (.slice A n c) ∧ Own 3 w' w.heap.size A n c (xs.map (Value.int .i64)) ∧ Below w.heap.size w w'


/-- Are two lists the same? -/
def sameB (xs ys : List Int) : Bool := xs == ys
def sameF : List Int → List Int → Bool
  | x :: t, y :: u => if x != y then false else sameF t u
  | _, _ => true
theorem sameF_eq : ∀ (xs ys : List Int), xs.length = ys.length → sameF xs ys = (xs == ys)
  | [], [], _ => rfl
  | [], _ :: _, h => by simp at h
  | _ :: _, [], h => by simp at h
  | x :: t, y :: u, h => by
    rw [sameF, sameF_eq t u (by simpa using h), List.cons_beq_cons]
    by_cases hxy : x = y
    · subst hxy; simp
    · simp [hxy]
theorem sameB_iff {xs ys : List Int} : sameB xs ys = true ↔ xs = ys := by simp [sameB]

set_option maxHeartbeats 400000 in
theorem same_any (A B : Option Addr) (n c m d : Nat) (xs ys : List Int) (w : World) (h : Ints w A n c xs) (h' : Ints w B m d ys) (r : Bool) (hr : Hid (sameB xs ys = r)) :
    Calls Tryd.prog 31 #[.slice A n c, .slice B m d] w (RetQ (.bool r) w) := by
  have hbd := h.bd
  have hbd' := h'.bd
  have hl := Lib.hid h.len
  have hl' := Lib.hid h'.len
  by_cases hnm : n = m
  · subst hnm
    have hr' : Hid (sameF xs ys = r) := by rw [sameF_eq _ _ (by rw [hl.out, hl'.out])]; exact hr
    have d1 : ((n : Int) != (n : Int)) = false := by simp
    go_enter Tryd.func31, Tryd.ntmps31
    go_wp2_with fail
    go_loopw [5] (fun i wr => ∃ k : Nat, k ≤ n ∧ i = .int .i64 k ∧ Hid (sameF (xs.drop k) (ys.drop k) = r) ∧ Hid (∃ m, wr = w.drewN m)) (fun i _ => n - (intOf i).toNat)
    case atStart => exact ⟨0, Nat.zero_le _, rfl, hr'.out, ⟨0, rfl⟩⟩
    case round =>
      obtain ⟨k, hk, rfl, hn, hB⟩ := hrel
      have hx : Ints wr A n c xs := by obtain ⟨m, rfl⟩ := hB.out; exact h.drewN m
      have hx' : Ints wr B n d ys := by obtain ⟨m, rfl⟩ := hB.out; exact h'.drewN m
      by_cases hlt : k < n
      · obtain ⟨b, off, x, rfl, hb, hcell, _, _, hy⟩ := hx.round hlt
        obtain ⟨b', off', y, rfl, hb', hcell', _, _, hy'⟩ := hx'.round hlt
        have hn2 : Hid ((if x != y then false else sameF (xs.drop (k + 1)) (ys.drop (k + 1))) = r) := by
          have := hn.out
          rw [drop_cons_of hy.out, drop_cons_of hy'.out, sameF] at this
          exact this
        have z4 : (k : Int) < (n : Int) := by omega
        have z5 : (0 : Int) ≤ (k : Int) := by omega
        cases hxy : (x != y)
        · go_wp2_with fail
          go_quiet (fail)
          go_wp2_with fail
          go_roundw
          case rel => exact ⟨k + 1, by omega, by go_num, by have := hn2.out; rw [hxy] at this; exact this, by obtain ⟨m, rfl⟩ := hB.out; exact ⟨_, World.drewN_drewN _ _ _⟩⟩
          case measure => simp [intOf]; omega
        · have : false = r := by rw [← hn2.out, hxy]; rfl
          subst this
          go_wp2_with fail
          go_quiet (fail)
          go_wp2_with fail
          go_ret
          obtain ⟨m2, rfl⟩ := hB.out
          rw [World.drewN_drewN]
          exact RetQ.of _ rfl
      · have : true = r := by
          rw [← hn.out, List.drop_of_length_le (by have := hl.out; omega)]; rfl
        subst this
        go_wp2_with fail
        go_ret
        obtain ⟨m2, rfl⟩ := hB.out
        exact RetQ.of _ rfl
  · have : false = r := by
      rw [← hr.out]
      symm
      rw [Bool.eq_false_iff]
      intro e
      have := sameB_iff.1 e
      rw [this, hl'.out] at hl
      exact hnm hl.out.symm
    subst this
    have d1 : ((n : Int) != (m : Int)) = true := by simp; omega
    go_enter Tryd.func31, Tryd.ntmps31
    go_wp2_with fail
    go_ret
    exact RetQ.of0 rfl
end Go.Proofs.YtabjbpkojbdgaaaDoor
