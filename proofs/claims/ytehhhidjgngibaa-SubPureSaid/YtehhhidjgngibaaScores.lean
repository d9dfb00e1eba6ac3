/- Contracts of the reference's ScoresWrong and of order.checkScores: each tells what is wrong with scores. -/
import Derived.Test.YtehhhidjgngibaaProg
import Derived.Test.YtehhhidjgngibaaBase
import Derived.Test.YtehhhidjgngibaaScoresPlain
namespace Go.Proofs.Ytehhhidjgngibaa
open Go.RowKit

set_option maxHeartbeats 400000 in
theorem scores_ref (A : Option Addr) (n c : Nat) (xs : List Int) (w : World) (h : Ints w A n c xs) (r1 r2 : Int) (hr : Hid (scoresWrong xs = (r1, r2))) :
    Calls Try.prog 20 #[.slice A n c] w (RetV (.agg #[.int .i64 r1, .int .i64 r2]) w) := by
  have hbd := h.bd
  have hlen := h.len
  by_cases hn : 120 < n
  · have : (r1, r2) = (2, 0) := by rw [← hr.out, scoresWrong, if_pos (by omega)]
    cases this
    clear hlen
    go_enter Try.func20, Try.ntmps20
    go_wp2_with fail
    exact bodyPost_ret (v := .agg #[.int .i64 2, .int .i64 0]) (by simp [results, Try.results20, go_sem]) rfl ⟨rfl, below_new _ _⟩
  · have hr' : Hid (scoresF xs 0 = (r1, r2)) := by have := hr.out; rw [scoresWrong, if_neg (by omega)] at this; exact this
    have HL := Lib.hid hlen
    clear hr hlen
    have d1 : decide ((120 : Int) < (n : Int)) = false := by simp; omega
    go_enter Try.func20, Try.ntmps20
    go_wp2_with fail
    go_loop [3] (fun i => ∃ k : Nat, k ≤ n ∧ i = .int .i64 k ∧ Hid (scoresF (xs.drop k) k = (r1, r2))) (fun i => n - (intOf i).toNat)
    case atStart => exact ⟨0, Nat.zero_le _, rfl, hr'.out⟩
    case round =>
      obtain ⟨k, hk, rfl, hg⟩ := hrel
      by_cases hlt : k < n
      · obtain ⟨b, off, y, rfl, hb, hcell', y1, y2, hy⟩ := h.round hlt
        have hcell : (w.alloc (.cells #[.int .i64 0, .int .i64 0] 24)).cell? ⟨b, off + k, none⟩ = some (.int .i64 y) := keepBox (below_new _ _) hcell'
        by_cases hy0 : y < 0 ∨ 1000000 < y
        · have : (r1, r2) = (3, (k : Int)) := by rw [← hg.out, drop_cons_of hy.out, scoresF, if_pos hy0]
          cases this
          rcases Decidable.em (y < 0) with hz | hz
          · clear hy0
            go_wp2_with fail
            exact bodyPost_ret (v := .agg #[.int .i64 3, .int .i64 k]) (by simp [results, Try.results20, go_sem]) rfl ⟨rfl, below_new _ _⟩
          · have hz2 : 1000000 < y := by omega
            clear hy0
            go_wp2_with fail
            exact bodyPost_ret (v := .agg #[.int .i64 3, .int .i64 k]) (by simp [results, Try.results20, go_sem]) rfl ⟨rfl, below_new _ _⟩
        · have hg' : Hid (scoresF (xs.drop (k + 1)) (k + 1) = (r1, r2)) := by
            have := hg.out
            rw [drop_cons_of hy.out, scoresF, if_neg hy0] at this
            exact this
          have z1 : ¬ y < 0 := by omega
          have z2 : ¬ 1000000 < y := by omega
          clear hy0
          go_wp2_with fail
          go_round
          case rel => exact ⟨k + 1, by omega, by go_num, hg'⟩
          case measure => simp [intOf]; omega
      · have : (r1, r2) = (0, 0) := by rw [← hg.out, List.drop_of_length_le (by rw [HL.out]; omega), scoresF]
        cases this
        go_wp2_with fail
        exact bodyPost_ret (v := .agg #[.int .i64 0, .int .i64 0]) (by simp [results, Try.results20, go_sem]) rfl ⟨rfl, below_new _ _⟩

set_option maxHeartbeats 400000 in
theorem scores_own (A : Option Addr) (n c : Nat) (xs : List Int) (w : World) (h : Ints w A n c xs) (r1 r2 : Int) (hr : Hid (scoresWrong xs = (r1, r2))) :
    Calls Try.prog 41 #[.slice A n c] w (RetV (.agg #[.int .i64 r1, .int .i64 r2]) w) := by
  have hbd := h.bd
  have hlen := h.len
  by_cases hn : 120 < n
  · have : (r1, r2) = (2, 0) := by rw [← hr.out, scoresWrong, if_pos (by omega)]
    cases this
    clear hlen
    go_enter Try.func41, Try.ntmps41
    go_wp2_with fail
    exact bodyPost_ret (v := .agg #[.int .i64 2, .int .i64 0]) (by simp [results, Try.results41, go_sem]) rfl ⟨rfl, below_new _ _⟩
  · have hr' : Hid (scoresF xs 0 = (r1, r2)) := by have := hr.out; rw [scoresWrong, if_neg (by omega)] at this; exact this
    have HL := Lib.hid hlen
    clear hr hlen
    have d1 : decide ((120 : Int) < (n : Int)) = false := by simp; omega
    go_enter Try.func41, Try.ntmps41
    go_wp2_with fail
    go_loop [11] (fun i => ∃ k : Nat, k ≤ n ∧ i = .int .i64 k ∧ Hid (scoresF (xs.drop k) k = (r1, r2))) (fun i => n - (intOf i).toNat)
    case atStart => exact ⟨0, Nat.zero_le _, rfl, hr'.out⟩
    case round =>
      obtain ⟨k, hk, rfl, hg⟩ := hrel
      by_cases hlt : k < n
      · obtain ⟨b, off, y, rfl, hb, hcell', y1, y2, hy⟩ := h.round hlt
        have hcell : (w.alloc (.cells #[.int .i64 0, .int .i64 0] 24)).cell? ⟨b, off + k, none⟩ = some (.int .i64 y) := keepBox (below_new _ _) hcell'
        by_cases hy0 : y < 0 ∨ 1000000 < y
        · have : (r1, r2) = (3, (k : Int)) := by rw [← hg.out, drop_cons_of hy.out, scoresF, if_pos hy0]
          cases this
          rcases Decidable.em (y < 0) with hz | hz
          · clear hy0
            go_wp2_with fail
            exact bodyPost_ret (v := .agg #[.int .i64 3, .int .i64 k]) (by simp [results, Try.results41, go_sem]) rfl ⟨rfl, below_new _ _⟩
          · have hz2 : 1000000 < y := by omega
            clear hy0
            go_wp2_with fail
            exact bodyPost_ret (v := .agg #[.int .i64 3, .int .i64 k]) (by simp [results, Try.results41, go_sem]) rfl ⟨rfl, below_new _ _⟩
        · have hg' : Hid (scoresF (xs.drop (k + 1)) (k + 1) = (r1, r2)) := by
            have := hg.out
            rw [drop_cons_of hy.out, scoresF, if_neg hy0] at this
            exact this
          have z1 : ¬ y < 0 := by omega
          have z2 : ¬ 1000000 < y := by omega
          clear hy0
          go_wp2_with fail
          go_round
          case rel => exact ⟨k + 1, by omega, by go_num, hg'⟩
          case measure => simp [intOf]; omega
      · have : (r1, r2) = (0, 0) := by rw [← hg.out, List.drop_of_length_le (by rw [HL.out]; omega), scoresF]
        cases this
        go_wp2_with fail
        exact bodyPost_ret (v := .agg #[.int .i64 0, .int .i64 0]) (by simp [results, Try.results41, go_sem]) rfl ⟨rfl, below_new _ _⟩
end Go.Proofs.Ytehhhidjgngibaa
