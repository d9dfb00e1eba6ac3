/- Contracts of order.Luby and of the reference's Luby: each returns the plain sequence's element. -/
import Derived.Test.YtehhhidjgngibaaProg
import Derived.Test.YtehhhidjgngibaaBase
import Derived.Test.YtehhhidjgngibaaLubyPlain
namespace Go.Proofs.Ytehhhidjgngibaa
open Go.RowKit

theorem top_start {n : Int} (h : 1 ≤ n) : ∃ j : Nat, (1 : Int) = ((2 ^ j : Nat) : Int) ∧ 2 ^ j ≤ n.toNat := ⟨0, rfl, by simp; omega⟩

/-- 'a result that is an int, and a fault (code, at)': what lay in the world lies unturned. -/
def RetIF (n code at' : Int) (w : World) (e : Ending) (w' : World) : Prop :=
  e = .returned (.tuple #[.int .i64 n, .agg #[.int .i64 code, .int .i64 at']]) ∧ Below w.heap.size w w'

set_option maxHeartbeats 400000 in
theorem luby_ref : ∀ (m : Nat) (n : Int) (w : World), n.toNat ≤ m → 1 ≤ n → n ≤ 1000000 →
    Calls Try.prog 18 #[.int .i64 n] w (RetI (luby n.toNat) w) := by
  intro m
  induction m with
  | zero => intro n w h1 h2 h3; omega
  | succ m ih =>
    intro n w h1 h2 h3
    have IH := Lib.hid ih
    clear ih
    go_enter Try.func18, Try.ntmps18
    go_wp2_with fail
    go_loop [3] (fun q => ∃ p : Nat, 1 ≤ p ∧ p ≤ n.toNat ∧ q = .int .i64 p ∧ Hid (∃ j, p = 2 ^ j)) (fun q => n.toNat - (intOf q).toNat)
    case atStart => exact ⟨1, by omega, by omega, rfl, ⟨0, rfl⟩⟩
    case round =>
      obtain ⟨p, hp1, hp, rfl, hj⟩ := hrel
      by_cases hlt : 2 * (p : Int) ≤ n
      · go_wp2_with fail
        go_round
        case rel => exact ⟨2 * p, by omega, by omega, by go_num, by obtain ⟨j, hj⟩ := hj.out; exact ⟨j + 1, by rw [hj, Nat.pow_succ]; omega⟩⟩
        case measure => simp [intOf]; omega
      · have ht : Hid (Top n.toNat p) := ⟨hj.out, by omega, by omega⟩
        by_cases he : n = 2 * (p : Int) - 1
        · have he' : (n == 2 * (p : Int) - 1) = true := by simp [he]
          have he2 := Lib.hid he
          clear he
          go_wp2_with fail
          go_ret
          exact ⟨ret_int (by rw [luby_end ht.out (by have := he2.out; omega)]), rfl⟩
        · have he' : (n == 2 * (p : Int) - 1) = false := by simp [he]
          go_wp2_with fail
          have hlt2 := luby_lt ht.out (by omega)
          refine (IH.out (n - p + 1) _ (by omega) (by omega) (by omega)).mono ?_
          rintro e w' ⟨rfl, rfl⟩
          go_wp2_with fail
          go_ret
          exact ⟨ret_int (by rw [luby_on ht.out (by omega)]; congr 2; omega), rfl⟩

set_option maxHeartbeats 400000 in
theorem luby_no (n : Int) (w : World) (h : n < 1 ∨ 1000000 < n) : Calls Try.prog 17 #[.int .i64 n] w (RetIF 0 3 0 w) := by
  rcases h with h | h
  · go_enter Try.func17, Try.ntmps17
    go_wp2_with fail
    exact bodyPost_ret (v := .tuple #[.int .i64 0, .agg #[.int .i64 3, .int .i64 0]]) (by simp [results, Try.results17, go_sem]) rfl ⟨rfl, (Below.refl _ _).alloc (Nat.le_refl _) _⟩
  · have h' : ¬ n < 1 := by omega
    go_enter Try.func17, Try.ntmps17
    go_wp2_with fail
    exact bodyPost_ret (v := .tuple #[.int .i64 0, .agg #[.int .i64 3, .int .i64 0]]) (by simp [results, Try.results17, go_sem]) rfl ⟨rfl, (Below.refl _ _).alloc (Nat.le_refl _) _⟩

set_option maxHeartbeats 400000 in
theorem luby_yes (n : Int) (w : World) (h1 : 1 ≤ n) (h2 : n ≤ 1000000) : Calls Try.prog 17 #[.int .i64 n] w (RetIF (luby n.toNat) 0 0 w) := by
  have d1 : decide (n < 1) = false := by simp; omega
  have d2 : decide (1000000 < n) = false := by simp; omega
  go_enter Try.func17, Try.ntmps17
  go_wp2_with fail
  go_loop [0] (fun v => ∃ m : Int, 1 ≤ m ∧ m ≤ 1000000 ∧ v = .int .i64 m ∧ Hid (luby m.toNat = luby n.toNat)) (fun v => (intOf v).toNat)
  case atStart => exact ⟨n, h1, h2, rfl, rfl⟩
  case round =>
    obtain ⟨m, hm1, hm2, rfl, hm⟩ := hrel
    clear d1 d2
    go_wp2_with fail
    go_loop [4] (fun q => ∃ p : Nat, 1 ≤ p ∧ p ≤ m.toNat ∧ q = .int .i64 p ∧ Hid (∃ j, p = 2 ^ j)) (fun q => m.toNat - (intOf q).toNat)
    case atStart => exact ⟨1, by omega, by omega, rfl, ⟨0, rfl⟩⟩
    case round =>
      obtain ⟨p, hp1, hp, rfl, hj⟩ := hrel
      by_cases hlt : 2 * (p : Int) ≤ m
      · go_wp2_with fail
        go_round
        case rel => exact ⟨2 * p, by omega, by omega, by go_num, by obtain ⟨j, hj⟩ := hj.out; exact ⟨j + 1, by rw [hj, Nat.pow_succ]; omega⟩⟩
        case measure => simp [intOf]; omega
      · have ht : Hid (Top m.toNat p) := ⟨hj.out, by omega, by omega⟩
        by_cases he : m = 2 * (p : Int) - 1
        · have he' : (m == 2 * (p : Int) - 1) = true := by simp [he]
          have he2 := Lib.hid he
          clear he
          go_wp2_with fail
          exact bodyPost_ret (v := .tuple #[.int .i64 p, .agg #[.int .i64 0, .int .i64 0]]) (by simp [results, Try.results17, go_sem]) rfl ⟨by rw [← hm.out, luby_end ht.out (by have := he2.out; omega)], (Below.refl _ _).alloc (Nat.le_refl _) _⟩
        · have he' : (m == 2 * (p : Int) - 1) = false := by simp [he]
          go_wp2_with fail
          have hlt2 := luby_lt ht.out (by omega)
          go_round
          case rel => exact ⟨m - p + 1, by omega, by omega, rfl, by rw [← hm.out, luby_on ht.out (by omega)]; congr 1; omega⟩
          case measure => simp [intOf]; omega
end Go.Proofs.Ytehhhidjgngibaa
