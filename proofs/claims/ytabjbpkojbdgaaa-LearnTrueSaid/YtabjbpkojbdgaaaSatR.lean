/- Contracts of the reference's Sat, All. -/
import Derived.Test.YtabjbpkojbdgaaaCnfA
import Derived.Test.YtabjbpkojbdgaaaSatPlain
namespace Go.Proofs.Ytabjbpkojbdgaaa
open Go.RowKit

set_option maxHeartbeats 1000000 in
theorem sat_ref (A B : Option Addr) (n c m d : Nat) (xs : List Int) (a : List Bool) (w : World) (h : Ints w A n c xs) (h' : Bools w B m d a) (hi : InLits m xs) (r : Bool) (hr : Hid (satB a xs = r)) :
    Calls Try.prog 24 #[.slice B m d, .slice A n c] w (RetQ (.bool r) w) := by
  have hbd := h.bd
  have hbd' := h'.bd
  have hlen := Lib.hid h.len
  have HI := Lib.hid hi
  clear hi
  go_enter Try.func24, Try.ntmps24
  go_wp2_with fail
  go_loop [5] (fun i => ∃ k : Nat, k ≤ n ∧ i = .int .i64 k ∧ Hid (satB a (xs.drop k) = r)) (fun i => n - (intOf i).toNat)
  case atStart => exact ⟨0, Nat.zero_le _, rfl, hr.out⟩
  case round =>
    obtain ⟨k, hk, rfl, hn⟩ := hrel
    by_cases hlt : k < n
    · obtain ⟨b, off, x, rfl, hb, hcell, x1, x2, hy⟩ := h.round hlt
      have hx := HI.out x (List.mem_of_getElem? hy.out)
      obtain ⟨j, hj⟩ : ∃ j : Nat, x.natAbs = j + 1 := ⟨x.natAbs - 1, by omega⟩
      have hjm : j < m := by omega
      obtain ⟨b', off', y, rfl, hb', hcell', hy'⟩ := h'.round (k := j) hjm
      have hn2 : Hid (((y == decide (0 < x)) || satB a (xs.drop (k + 1))) = r) := by
        have := hn.out
        rw [drop_cons_of hy.out, satB, List.any_cons, litB, hj, show j + 1 - 1 = j by omega, hy'.out] at this
        exact this
      have z5 : (j : Int) < (m : Int) := by omega
      have z6 : (0 : Int) ≤ (j : Int) := by omega
      by_cases hpos : 0 < x
      · have z4 : x - 1 = (j : Int) := by omega
        have z7 : ¬ x < 0 := by omega
        have hn3 : Hid ((y || satB a (xs.drop (k + 1))) = r) := by
          have := hn2.out
          rw [show decide (0 < x) = true from decide_eq_true hpos] at this
          cases y <;> exact this
        clear hj hx hn2
        cases y
        · go_wp2_with fail
          go_round
          case rel => exact ⟨k + 1, by omega, by go_num, by have := hn3.out; simp at this; exact this⟩
          case measure => simp [intOf]; omega
        · have : true = r := by rw [← hn3.out]; rfl
          subst this
          go_wp2_with fail
          go_ret
          exact RetQ.of0 rfl
      · have z4 : -x - 1 = (j : Int) := by omega
        have z7 : x < 0 := by omega
        have hn3 : Hid (((!y) || satB a (xs.drop (k + 1))) = r) := by
          have := hn2.out
          rw [show decide (0 < x) = false from decide_eq_false hpos] at this
          cases y <;> exact this
        have z9 : -(m : Int) ≤ x := hx.2.1
        clear hj hx hn2
        cases y
        · have : true = r := by rw [← hn3.out]; rfl
          subst this
          go_wp2_with fail
          go_ret
          exact RetQ.of0 rfl
        · go_wp2_with fail
          go_round
          case rel => exact ⟨k + 1, by omega, by go_num, by have := hn3.out; simp at this; exact this⟩
          case measure => simp [intOf]; omega
    · have : false = r := by rw [← hn.out, List.drop_of_length_le (by have := hlen.out; omega)]; rfl
      subst this
      go_wp2_with fail
      go_ret
      exact RetQ.of0 rfl

set_option maxHeartbeats 400000 in
theorem all_ref (A B : Option Addr) (n c m d : Nat) (xss : List (List Int)) (a : List Bool) (w : World) (h : Grid w A n c xss) (h' : Bools w B m d a) (hi : ∀ xs ∈ xss, InLits m xs) (r : Bool) (hr : Hid (allB xss a = r)) :
    Calls Try.prog 23 #[.slice A n c, .slice B m d] w (RetQ (.bool r) w) := by
  have hbd := h.bd
  have hlen := Lib.hid h.len
  have HI := Lib.hid hi
  clear hi
  go_enter Try.func23, Try.ntmps23
  go_wp2_with fail
  go_loopw [5] (fun i wr => ∃ k : Nat, k ≤ n ∧ i = .int .i64 k ∧ Hid (allB (xss.drop k) a = r) ∧ Hid (∃ m, wr = w.drewN m)) (fun i _ => n - (intOf i).toNat)
  case atStart => exact ⟨0, Nat.zero_le _, rfl, hr.out, ⟨0, rfl⟩⟩
  case round =>
    obtain ⟨k, hk, rfl, hn, hB⟩ := hrel
    have hx : Grid wr A n c xss := by obtain ⟨m, rfl⟩ := hB.out; exact h.drewN m
    have hx' : Bools wr B m d a := by obtain ⟨m, rfl⟩ := hB.out; exact h'.drewN m
    by_cases hlt : k < n
    · obtain ⟨b, off, A', n', c', xs, rfl, hb, hcell, hi, hy⟩ := hx.round hlt
      obtain ⟨q, hq⟩ : ∃ q, Hid (satB a xs = q) := ⟨_, rfl⟩
      have hn2 : Hid ((q && allB (xss.drop (k + 1)) a) = r) := by
        have := hn.out
        rw [drop_cons_of hy.out, allB, List.all_cons, hq.out] at this
        exact this
      go_wp2_with fail
      refine (sat_ref _ _ _ _ _ _ _ _ _ hi hx' (HI.out xs (List.mem_of_getElem? hy.out)) _ hq).mono ?_
      rintro e w1 ⟨rfl, m1, rfl⟩
      cases q
      · have : false = r := by rw [← hn2.out]; rfl
        subst this
        go_wp2_with fail
        go_ret
        obtain ⟨m2, rfl⟩ := hB.out
        rw [World.drewN_drewN]
        exact RetQ.of _ rfl
      · go_wp2_with fail
        go_roundw
        case rel => exact ⟨k + 1, by omega, by go_num, by have := hn2.out; simp at this; exact this, by obtain ⟨m, rfl⟩ := hB.out; exact ⟨_, World.drewN_drewN _ _ _⟩⟩
        case measure => simp [intOf]; omega
    · have : true = r := by rw [← hn.out, List.drop_of_length_le (by have := hlen.out; omega)]; rfl
      subst this
      go_wp2_with fail
      go_ret
      obtain ⟨m2, rfl⟩ := hB.out
      exact RetQ.of _ rfl
end Go.Proofs.Ytabjbpkojbdgaaa
