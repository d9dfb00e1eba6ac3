/- Contract of order.Next: the best of the open ones. -/
import Derived.Test.YtehhhidjgngibaaScores
namespace Go.Proofs.Ytehhhidjgngibaa
open Go.RowKit

theorem neq_zero_of {c : Int} (h : c ≠ 0) : (c != 0) = true := by simpa using h

set_option maxHeartbeats 400000 in
theorem next_wrong (A B : Option Addr) (n c m d : Nat) (xs : List Int) (w : World) (h : Ints w A n c xs) (r1 r2 : Int) (hr : Hid (scoresWrong xs = (r1, r2))) (h0 : r1 ≠ 0) :
    Calls Try.prog 19 #[.slice A n c, .slice B m d] w (RetIF 0 r1 r2 w) := by
  have d1 := neq_zero_of h0
  go_enter Try.func19, Try.ntmps19
  go_wp2_with fail
  refine (scores_own _ _ _ _ _ (h.keep (below_new _ _)) _ _ hr).mono ?_
  rintro e w1 ⟨rfl, hb1⟩
  obtain ⟨c0, c1, l1, B1⟩ := box2 hb1
  have hk := Blk.keep (Blk.new w 24 #[.int .i64 0, .int .i64 0]) hb1
  have f0 := hk.frozen 0
  have f1 := hk.frozen 1
  have HK := Lib.hid hk
  have HB := Lib.hid B1
  clear hk hb1 B1
  go_wp2_with fail
  go_region
  go_wp2_with fail
  refine bodyPost_ret (v := .tuple #[.int .i64 0, .agg #[.int .i64 r1, .int .i64 r2]]) (by simp [results, Try.results19, go_sem, c0, c1, l1]) rfl ⟨rfl, ?_⟩
  exact ((((HB.out.setCell (p := ⟨w.heap.size, 0, none⟩) (Nat.le_refl _) _).setCell (p := ⟨w.heap.size, 1, none⟩) (Nat.le_refl _) _).alloc (by simpa using HB.out.size) _).drew)

set_option maxHeartbeats 400000 in
theorem next_size (A B : Option Addr) (n c m d : Nat) (xs : List Int) (w : World) (h : Ints w A n c xs) (hr : Hid (scoresWrong xs = (0, 0))) (_hm : m ≤ 9223372036854775807) (hne : m ≠ n) :
    Calls Try.prog 19 #[.slice A n c, .slice B m d] w (RetIF 0 9 (-1) w) := by
  have hbd := h.bd
  have d2 : ((m : Int) != (n : Int)) = true := by simp; omega
  go_enter Try.func19, Try.ntmps19
  go_wp2_with fail
  refine (scores_own _ _ _ _ _ (h.keep (below_new _ _)) _ _ hr).mono ?_
  rintro e w1 ⟨rfl, hb1⟩
  obtain ⟨c0, c1, l1, B1⟩ := box2 hb1
  have hk := Blk.keep (Blk.new w 24 #[.int .i64 0, .int .i64 0]) hb1
  have f0 := hk.frozen 0
  have f1 := hk.frozen 1
  have HB := Lib.hid B1
  clear hk hb1 B1
  go_wp2_with fail
  refine bodyPost_ret (v := .tuple #[.int .i64 0, .agg #[.int .i64 9, .int .i64 (-1)]]) (by simp [results, Try.results19, go_sem, c0, c1, l1]) rfl ⟨rfl, ?_⟩
  exact (((HB.out.setCell (p := ⟨w.heap.size, 0, none⟩) (Nat.le_refl _) _).setCell (p := ⟨w.heap.size, 1, none⟩) (Nat.le_refl _) _).alloc (by simpa using HB.out.size) _)

set_option maxHeartbeats 1000000 in
theorem next_best (A B : Option Addr) (n c d : Nat) (xs : List Int) (op : List Bool) (w : World) (h : Ints w A n c xs) (ho : Bools w B n d op) (hr : Hid (scoresWrong xs = (0, 0))) (q : Nat) (code : Int) (hq : Hid (Best op xs 0 n q)) (hc : Hid (code = if q = 0 then 6 else 0)) :
    Calls Try.prog 19 #[.slice A n c, .slice B n d] w (RetIF q code 0 w) := by
  have hbd := h.bd
  have hbo := ho.bd
  have d2 : ((n : Int) != (n : Int)) = false := by simp
  go_enter Try.func19, Try.ntmps19
  go_wp2_with fail
  refine (scores_own _ _ _ _ _ (h.keep (below_new _ _)) _ _ hr).mono ?_
  rintro e w1 ⟨rfl, hb1⟩
  have hk := Blk.keep (Blk.new w 24 #[.int .i64 0, .int .i64 0]) hb1
  obtain ⟨B1, l1⟩ := below_box hb1
  have HK := Lib.hid hk
  have HB := Lib.hid B1
  clear hk hb1 B1
  have c0 := HK.out.cell 0
  have c1 := HK.out.cell 1
  simp at c0 c1
  go_wp2_with fail
  clear c0 c1
  go_loopw [7, 24] (fun t i wr => ∃ (k b : Nat) (z : Int), k ≤ n ∧ i = .int .i64 k ∧ t = .int .i64 z ∧ Hid (z = (b : Int) - 1) ∧ Hid (Best op xs 0 k b) ∧ Hid (Below (w1.alloc (.cells #[.int .i64 0, .int .i64 0] 24)).heap.size (w1.alloc (.cells #[.int .i64 0, .int .i64 0] 24)) wr))
    (fun _ i _ => n - (intOf i).toNat)
  case atStart => exact ⟨0, 0, -1, Nat.zero_le _, rfl, rfl, rfl, Best.empty _ _ _, Below.refl _ _⟩
  case round =>
    obtain ⟨k, b, z, hkn, rfl, rfl, hz, hB, HW⟩ := hrel
    have B0 := Lib.hid (below_next HB.out (below_box HW.out).1)
    have hx := h.keep B0.out
    have hox := ho.keep B0.out
    by_cases hlt : k < n
    · obtain ⟨bb, off, y, rfl, hb, hcell, y1, y2, hy⟩ := hx.round hlt
      obtain ⟨bo, offo, o, rfl, hbo', hcello, hoy⟩ := hox.round hlt
      obtain ⟨s1, s2, s3⟩ := hB.out.snoc hoy.out hy.out
      have hn1 : (k : Int) < (n : Int) := by omega
      cases o
      · have S := Lib.hid (s1 rfl)
        clear s1 s2 s3
        go_wp2_with fail
        go_quiet (fail)
        go_wp2_with fail
        go_roundw
        case rel => exact ⟨k + 1, b, z, by omega, by go_num, rfl, hz, S, below_next HW.out (below_drewN _ _)⟩
        case measure => simp [intOf]; omega
      · cases b with
        | zero =>
          have S := Lib.hid (s2 rfl rfl)
          clear s1 s2 s3
          obtain rfl : z = -1 := by have := hz.out; omega
          go_wp2_with fail
          go_quiet (fail)
          go_wp2_with fail
          go_roundw
          case rel => exact ⟨k + 1, k + 1, k, by omega, by go_num, rfl, by show (_ : Int) = _; omega, S, below_next HW.out (below_drewN _ _)⟩
          case measure => simp [intOf]; omega
        | succ m =>
          obtain ⟨m1, m2, x, hm⟩ := hB.out.at_
          obtain rfl : z = (m : Int) := by have := hz.out; omega
          have S3 := s3 m x rfl rfl hm
          clear s1 s2 s3
          obtain ⟨b2, off2, y', e2, hb2, hcell2, _, _, hy2⟩ := hx.round (k := m) (by omega)
          cases e2
          obtain rfl : y' = x := by have := hy2.out; rw [hm] at this; cases this; rfl
          have hn2 : (m : Int) < (n : Int) := by omega
          have hn3 : ¬ (m : Int) < 0 := by omega
          have hn4 : decide ((m : Int) < 0) = false := by simp
          by_cases hyx : y' < y
          · have S := Lib.hid (S3.1 hyx)
            clear S3
            go_wp2_with fail
            go_quiet (fail)
            go_wp2_with fail
            go_roundw
            case rel => exact ⟨k + 1, k + 1, k, by omega, by go_num, rfl, by show (_ : Int) = _; omega, S, below_next HW.out (below_drewN _ _)⟩
            case measure => simp [intOf]; omega
          · have S := Lib.hid (S3.2 hyx)
            have hyx' : decide (y' < y) = false := by simpa using hyx
            clear S3
            go_wp2_with fail
            go_quiet (fail)
            go_wp2_with fail
            go_roundw
            case rel => exact ⟨k + 1, m + 1, m, by omega, by go_num, rfl, by show (_ : Int) = _; omega, S, below_next HW.out (below_drewN _ _)⟩
            case measure => simp [intOf]; omega
    · obtain rfl : k = n := by omega
      obtain rfl : b = q := hB.out.uniq hq.out
      have hK := HK.out.keep (below_box HW.out).1
      have g0 := hK.cell 0
      have g1 := hK.cell 1
      have f0 := hK.frozen 0
      have f1 := hK.frozen 1
      simp at g0 g1
      cases b with
      | zero =>
        obtain rfl : z = -1 := by have := hz.out; omega
        obtain rfl : code = 6 := hc.out
        go_wp2_with fail
        refine bodyPost_ret (v := .tuple #[.int .i64 0, .agg #[.int .i64 6, .int .i64 0]]) (by simp [results, Try.results19, go_sem, g0, g1]) rfl ⟨rfl, ?_⟩
        exact ((B0.out.setCell (p := ⟨w.heap.size, 0, none⟩) (Nat.le_refl _) _).setCell (p := ⟨w.heap.size, 1, none⟩) (Nat.le_refl _) _)
      | succ m =>
        obtain rfl : z = (m : Int) := by have := hz.out; omega
        obtain rfl : code = 0 := by have := hc.out; simpa using this
        obtain ⟨m1, m2, x, hm⟩ := hB.out.at_
        go_wp2_with fail
        refine bodyPost_ret (v := .tuple #[.int .i64 (m + 1), .agg #[.int .i64 0, .int .i64 0]]) (by simp [results, Try.results19, go_sem, g0, g1]) rfl ⟨by simp, ?_⟩
        exact ((B0.out.setCell (p := ⟨w.heap.size, 0, none⟩) (Nat.le_refl _) _).setCell (p := ⟨w.heap.size, 1, none⟩) (Nat.le_refl _) _)
end Go.Proofs.Ytehhhidjgngibaa
