/- The walk of the law OrderLuby. -/
import Derived.Test.YtehhhidjgngibaaLuby
namespace Go.Proofs.Ytehhhidjgngibaa
open Go.RowKit

theorem shift_pow (k : Int) : ∃ j : Nat, j ≤ 13 ∧ wrap64 (2 ^ (1 + k % 14).toNat) = ((2 ^ (j + 1) : Nat) : Int) ∧ 2 ^ (j + 1) ≤ 16384 := by
  have e : (1 + k % 14).toNat = (k % 14).toNat + 1 := by omega
  have hj : (k % 14).toNat ≤ 13 := by omega
  have h0 : 0 < (2 : Nat) ^ ((k % 14).toNat + 1) := Nat.pow_pos (by omega)
  have hp : (2 : Nat) ^ ((k % 14).toNat + 1) ≤ 2 ^ 14 := Nat.pow_le_pow_right (by omega) (by omega)
  refine ⟨(k % 14).toNat, hj, ?_, hp⟩
  rw [e]
  have : ((2 : Int) ^ ((k % 14).toNat + 1)) = ((2 ^ ((k % 14).toNat + 1) : Nat) : Int) := by simp
  rw [this]
  generalize (2 : Nat) ^ ((k % 14).toNat + 1) = q at *
  exact IntWalk.wrap64_in _ ⟨by omega, by omega⟩

set_option maxHeartbeats 1000000 in
set_option maxRecDepth 100000 in
theorem orderLuby_core {k n : Int} (w : World) (p i : Int) (a b c : Nat) (hk : 0 ≤ k ∧ k ≤ 255) (hn : 0 ≤ n ∧ n ≤ 65535) (hp : wrap64 (2 ^ (1 + k % 14).toNat) = p) (h2 : 2 ≤ p) (h3 : p ≤ 16384) (hi : n % (p - 1) + 1 = i) (hi1 : 1 ≤ i) (hi2 : i ≤ p - 1)
    (ha : Hid (luby (p - 1).toNat = a)) (hb : Hid (luby i.toNat = b)) (hc : Hid (luby (p - 1 + i).toNat = c)) (ea : ((a : Int) == p / 2) = true) (eb : 1 ≤ b)
    (el : i < p - 1 → ((b : Int) == c) = true) (er : i = p - 1 → ((b : Int) == p / 2) = true ∧ ((c : Int) == p / 2) = true) :
    Calls Try.prog 5 #[.int .u8 k, .int .u16 n] w fun e w' => e = .returned (.bool true) ∧ Below w.heap.size w w' := by
  have hi' : 1 + n % (p - 1) = i := by omega
  have Hi := Lib.hid hi
  clear hi
  go_enter Try.func5, Try.ntmps5
  go_wp2_with fail
  refine (luby_yes _ _ (by omega) (by omega)).mono ?_
  rw [ha.out]
  rintro e w1 ⟨rfl, hb1⟩
  go_wp2_with fail
  refine (luby_yes _ _ (by omega) (by omega)).mono ?_
  rw [hb.out]
  rintro e w2 ⟨rfl, hb2⟩
  obtain ⟨c20, -, l2, B2⟩ := box2 hb2
  clear hb2
  go_wp2_with fail
  refine (luby_yes _ _ (by omega) (by omega)).mono ?_
  rw [hc.out]
  rintro e w3 ⟨rfl, hb3⟩
  obtain ⟨c30, -, l3, B3⟩ := box2 hb3
  have c31 := keepBox B3 c20
  have l13 : w1.heap.size < w3.heap.size := by omega
  clear hb3 c20
  have BB := below_alloc (below_next (below_next hb1 B2) B3) (.cells #[.int .i64 0, .int .i64 0] 24)
  have HB := Lib.hid BB
  clear BB B2 B3 hb1 hi'
  by_cases h4 : i < p - 1
  · have h5 := el h4
    have h6 : (i == p - 1) = false := by simp; omega
    clear el er
    go_wp2_with fail
    go_ret
    exact ⟨rfl, HB.out⟩
  · have h6 : (i == p - 1) = true := by simp; omega
    obtain ⟨h5, h7⟩ := er (by omega)
    have h8 : decide (i < p - 1) = false := by simp; omega
    clear el er
    go_wp2_with fail
    go_ret
    exact ⟨rfl, HB.out⟩

theorem orderLuby_walk {k n : Int} (w : World) (hk : 0 ≤ k ∧ k ≤ 255) (hn : 0 ≤ n ∧ n ≤ 65535) :
    Calls Try.prog 5 #[.int .u8 k, .int .u16 n] w fun e w' => e = .returned (.bool true) ∧ Below w.heap.size w w' := by
  obtain ⟨j, hj, hp, hle⟩ := shift_pow k
  have h1 := Nat.one_le_two_pow (n := j)
  have e2 : 2 ^ (j + 1) = 2 * 2 ^ j := by rw [Nat.pow_succ]; omega
  generalize hq : 2 ^ (j + 1) = q at *
  have hm : 0 ≤ n % ((q : Int) - 1) ∧ n % ((q : Int) - 1) < (q : Int) - 1 := by
    by_cases hq1 : (q : Int) = 1
    · omega
    · exact ⟨Int.emod_nonneg _ (by omega), Int.emod_lt_of_pos _ (by omega)⟩
  have la := luby_pow j
  rw [hq] at la
  generalize hi : n % ((q : Int) - 1) + 1 = i at *
  have lc := luby_again j i.toNat (by omega) (by omega)
  rw [hq] at lc
  have lb := luby_pos i.toNat
  refine orderLuby_core w q i (2 ^ j) (luby i.toNat) (luby i.toNat) hk hn hp (by omega) (by omega) hi (by omega) (by omega) ?_ rfl ?_ ?_ lb (fun _ => by simp) (fun hh => ?_)
  · show luby _ = _
    rw [← la]; congr 1; omega
  · show luby _ = _
    rw [← lc]; congr 1; omega
  · rw [beq_iff_eq]; omega
  · have : i.toNat = q - 1 := by omega
    rw [this, la, beq_iff_eq]
    omega
end Go.Proofs.Ytehhhidjgngibaa
