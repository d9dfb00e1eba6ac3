/- Contracts of slices.Equal at ints, slices.CompareFunc with cnf.Order, the closures of cnf.Normal; of slices.SortFunc at rows. -/
import Derived.Test.YtabjbpkojbdgaaaSorted
import Derived.Test.YtabjbpkojbdgaaaCloneR
namespace Go.Proofs.Ytabjbpkojbdgaaa
open Go.RowKit Go.Sort

set_option maxHeartbeats 400000 in
theorem equal_ints (A B : Option Addr) (n c m d : Nat) (xs ys : List Int) (w : World) (h : Ints w A n c xs) (h' : Ints w B m d ys) (r : Bool) (hr : Hid (sameB xs ys = r)) :
    Calls Try.prog 95 #[.slice A n c, .slice B m d] w (RetQ (.bool r) w) := by
  have hbd := h.bd
  have hbd' := h'.bd
  have hl := Lib.hid h.len
  have hl' := Lib.hid h'.len
  by_cases hnm : n = m
  · subst hnm
    have hr' : Hid (sameF xs ys = r) := by rw [sameF_eq _ _ (by rw [hl.out, hl'.out])]; exact hr
    have d1 : ((n : Int) != (n : Int)) = false := by simp
    go_enter Try.func95, Try.ntmps95
    go_wp2_with fail
    go_loopw [13] (fun i wr => ∃ k : Nat, k ≤ n ∧ i = .int .i64 k ∧ Hid (sameF (xs.drop k) (ys.drop k) = r) ∧ Hid (∃ m, wr = w.drewN m)) (fun i _ => n - (intOf i).toNat)
    case atStart => exact ⟨0, Nat.zero_le _, rfl, hr'.out, ⟨0, rfl⟩⟩
    case round =>
      obtain ⟨k, hk, rfl, hn, hB⟩ := hrel
      have hx : Ints wr A n c xs := by obtain ⟨m, rfl⟩ := hB.out; exact h.drewN m
      have hx' : Ints wr B n d ys := by obtain ⟨m, rfl⟩ := hB.out; exact h'.drewN m
      by_cases hlt : k < n
      · obtain ⟨b, off, x, rfl, hb, hcell, _, _, hy⟩ := hx.round hlt
        obtain ⟨b', off', y, rfl, hb', hcell', _, _, hy'⟩ := hx'.round hlt
        have hn2 : Hid ((if x != y then false else sameF (xs.drop (k + 1)) (ys.drop (k + 1))) = r) := by
          have := hn.out
          rw [drop_cons_of hy.out, drop_cons_of hy'.out, sameF] at this
          exact this
        have z4 : (k : Int) < (n : Int) := by omega
        have z5 : (0 : Int) ≤ (k : Int) := by omega
        cases hxy : (x != y)
        · go_wp2_with fail
          go_quiet (fail)
          go_wp2_with fail
          go_roundw
          case rel => exact ⟨k + 1, by omega, by go_num, by have := hn2.out; rw [hxy] at this; exact this, by obtain ⟨m, rfl⟩ := hB.out; exact ⟨_, World.drewN_drewN _ _ _⟩⟩
          case measure => simp [intOf]; omega
        · have : false = r := by rw [← hn2.out, hxy]; rfl
          subst this
          go_wp2_with fail
          go_quiet (fail)
          go_wp2_with fail
          go_ret
          obtain ⟨m2, rfl⟩ := hB.out
          rw [World.drewN_drewN]
          exact RetQ.of _ rfl
      · have : true = r := by
          rw [← hn.out, List.drop_of_length_le (by have := hl.out; omega)]; rfl
        subst this
        go_wp2_with fail
        go_ret
        obtain ⟨m2, rfl⟩ := hB.out
        exact RetQ.of _ rfl
  · have : false = r := by
      rw [← hr.out]
      symm
      rw [Bool.eq_false_iff]
      intro e
      have := sameB_iff.1 e
      rw [this, hl'.out] at hl
      exact hnm hl.out.symm
    subst this
    have d1 : ((n : Int) != (m : Int)) = true := by simp; omega
    go_enter Try.func95, Try.ntmps95
    go_wp2_with fail
    go_ret
    exact RetQ.of0 rfl




end Go.Proofs.Ytabjbpkojbdgaaa
