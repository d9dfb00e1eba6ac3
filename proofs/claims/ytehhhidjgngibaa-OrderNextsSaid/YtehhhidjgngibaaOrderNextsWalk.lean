/- The walk of the law OrderNexts. -/
import Derived.Test.YtehhhidjgngibaaNext
namespace Go.Proofs.Ytehhhidjgngibaa
open Go.RowKit

theorem best_34 : Best [true, true] [3, 4] 0 2 2 := by
  refine .inr ⟨1, 4, rfl, by omega, by omega, rfl, rfl, fun j y h1 h2 h3 h4 => ?_⟩
  match j with
  | 0 => simp at h4; omega
  | 1 => simp at h4; omega
  | j + 2 => omega

set_option maxHeartbeats 1000000 in
set_option maxRecDepth 100000 in
theorem orderNexts_wrong {A B : Option Addr} {n c m d : Nat} {xs : List Int} (w : World) (h : Ints w A n c xs) (r1 r2 : Int) (hr : Hid (scoresWrong xs = (r1, r2))) (h0 : r1 ≠ 0) :
    Calls Try.prog 6 #[.slice A n c, .slice B m d] w fun e w' => e = .returned (.bool true) ∧ Below w.heap.size w w' := by
  have hbd := h.bd
  have d1 : (r1 == 0) = false := by simpa using h0
  go_enter Try.func6, Try.ntmps6
  go_wp2_with fail
  refine (next_wrong _ _ _ _ _ _ _ _ h _ _ hr h0).mono ?_
  rintro e w1 ⟨rfl, hb1⟩
  go_wp2_with fail
  refine (scores_ref _ _ _ _ _ (h.keep (below_alloc hb1 _)) _ _ hr).mono ?_
  rintro e w2 ⟨rfl, hb2⟩
  obtain ⟨c0, c1, l1, B1⟩ := box2 hb2
  have BB := Lib.hid (below_next hb1 B1)
  clear hb1 hb2 B1
  go_wp2_with fail
  refine wp_loop_rounds 1 ?_
  rw [rounds_succ]
  have d3 : (1 : Int) ≤ (n : Int) ∨ ¬ (1 : Int) ≤ (n : Int) := by omega
  rcases d3 with d3 | d3
  · go_wp2_with fail
    refine (next_best _ _ 2 2 2 [3, 4] [true, true] _ (Ints.keep (ints_made _ 3 [3, 4] (by simp) (by simp [I64]) (by decide)) (below_new _ _)) (bools_made _ 4 [true, true] (by simp) (by decide)) (by rfl) 2 0 best_34 (by rfl)).mono ?_
    rintro e w3 ⟨rfl, hb3⟩
    obtain ⟨x0, x1, l3, B3⟩ := box2 (below_box (below_box hb3).1).1
    have q0 := keepBox B3 c0
    have q1 := keepBox B3 c1
    have l4 : w1.heap.size < w3.heap.size := by omega
    have BF := Lib.hid (below_alloc (below_next BB.out B3) (.cells #[.int .i64 0, .int .i64 0] 24))
    clear hb3 B3 c0 c1
    go_wp2_with fail
    go_ret
    exact ⟨rfl, BF.out⟩
  · go_wp2_with fail
    refine (next_best _ _ 2 2 2 [3, 4] [true, true] _ (Ints.keep (ints_made _ 3 [3, 4] (by simp) (by simp [I64]) (by decide)) (below_new _ _)) (bools_made _ 4 [true, true] (by simp) (by decide)) (by rfl) 2 0 best_34 (by rfl)).mono ?_
    rintro e w3 ⟨rfl, hb3⟩
    obtain ⟨x0, x1, l3, B3⟩ := box2 (below_box (below_box hb3).1).1
    have q0 := keepBox B3 c0
    have q1 := keepBox B3 c1
    have l4 : w1.heap.size < w3.heap.size := by omega
    have BF := Lib.hid (below_alloc (below_next BB.out B3) (.cells #[.int .i64 0, .int .i64 0] 24))
    clear hb3 B3 c0 c1
    go_wp2_with fail
    go_ret
    exact ⟨rfl, BF.out⟩

set_option maxHeartbeats 1000000 in
set_option maxRecDepth 100000 in
theorem orderNexts_size {A B : Option Addr} {n c m d : Nat} {xs : List Int} (w : World) (h : Ints w A n c xs) (hm : m ≤ 9223372036854775807) (hr : Hid (scoresWrong xs = (0, 0))) (hne : m ≠ n) :
    Calls Try.prog 6 #[.slice A n c, .slice B m d] w fun e w' => e = .returned (.bool true) ∧ Below w.heap.size w w' := by
  have hbd := h.bd
  have d2 : ((m : Int) != (n : Int)) = true := by simp; omega
  go_enter Try.func6, Try.ntmps6
  go_wp2_with fail
  refine (next_size _ _ _ _ _ _ _ _ h hr hm hne).mono ?_
  rintro e w1 ⟨rfl, hb1⟩
  go_wp2_with fail
  refine (scores_ref _ _ _ _ _ (h.keep (below_alloc hb1 _)) _ _ hr).mono ?_
  rintro e w2 ⟨rfl, hb2⟩
  obtain ⟨c0, c1, l1, B1⟩ := box2 hb2
  have BB := Lib.hid (below_next hb1 B1)
  clear hb1 hb2 B1
  go_wp2_with fail
  refine wp_loop_rounds 1 ?_
  rw [rounds_succ]
  have d3 : (1 : Int) ≤ (n : Int) ∨ ¬ (1 : Int) ≤ (n : Int) := by omega
  rcases d3 with d3 | d3
  · go_wp2_with fail
    refine (next_best _ _ 2 2 2 [3, 4] [true, true] _ (Ints.keep (ints_made _ 3 [3, 4] (by simp) (by simp [I64]) (by decide)) (below_new _ _)) (bools_made _ 4 [true, true] (by simp) (by decide)) (by rfl) 2 0 best_34 (by rfl)).mono ?_
    rintro e w3 ⟨rfl, hb3⟩
    obtain ⟨x0, x1, l3, B3⟩ := box2 (below_box (below_box hb3).1).1
    have q0 := keepBox B3 c0
    have q1 := keepBox B3 c1
    have l4 : w1.heap.size < w3.heap.size := by omega
    have BF := Lib.hid (below_alloc (below_next BB.out B3) (.cells #[.int .i64 0, .int .i64 0] 24))
    clear hb3 B3 c0 c1
    go_wp2_with fail
    go_ret
    exact ⟨rfl, BF.out⟩
  · go_wp2_with fail
    refine (next_best _ _ 2 2 2 [3, 4] [true, true] _ (Ints.keep (ints_made _ 3 [3, 4] (by simp) (by simp [I64]) (by decide)) (below_new _ _)) (bools_made _ 4 [true, true] (by simp) (by decide)) (by rfl) 2 0 best_34 (by rfl)).mono ?_
    rintro e w3 ⟨rfl, hb3⟩
    obtain ⟨x0, x1, l3, B3⟩ := box2 (below_box (below_box hb3).1).1
    have q0 := keepBox B3 c0
    have q1 := keepBox B3 c1
    have l4 : w1.heap.size < w3.heap.size := by omega
    have BF := Lib.hid (below_alloc (below_next BB.out B3) (.cells #[.int .i64 0, .int .i64 0] 24))
    clear hb3 B3 c0 c1
    go_wp2_with fail
    go_ret
    exact ⟨rfl, BF.out⟩

set_option maxHeartbeats 2000000 in
set_option maxRecDepth 100000 in
theorem orderNexts_best {A B : Option Addr} {n c d : Nat} {xs : List Int} {op : List Bool} (w : World) (h : Ints w A n c xs) (ho : Bools w B n d op) (hr : Hid (scoresWrong xs = (0, 0))) (q : Nat) (hq : Hid (Best op xs 0 n q)) :
    Calls Try.prog 6 #[.slice A n c, .slice B n d] w fun e w' => e = .returned (.bool true) ∧ Below w.heap.size w w' := by
  have hbd := h.bd
  have hbo := ho.bd
  have d2 : ((n : Int) != (n : Int)) = false := by simp
  obtain ⟨code, hcode⟩ : ∃ code : Int, Hid (code = if q = 0 then 6 else 0) := ⟨_, rfl⟩
  go_enter Try.func6, Try.ntmps6
  go_wp2_with fail
  refine (next_best _ _ _ _ _ _ _ _ h ho hr q code hq hcode).mono ?_
  rintro e w1 ⟨rfl, hb1⟩
  go_wp2_with fail
  refine (scores_ref _ _ _ _ _ (h.keep (below_alloc hb1 _)) _ _ hr).mono ?_
  rintro e w2 ⟨rfl, hb2⟩
  obtain ⟨c0, c1, l1, B1⟩ := box2 hb2
  have BB := Lib.hid (below_next hb1 B1)
  have C0' := Lib.hid c0
  have C1' := Lib.hid c1
  clear hb1 hb2 B1
  go_wp2_with fail
  clear c0 c1
  go_loopw [8, 9] (fun t i wr => ∃ (k b : Nat) (z : Int), k ≤ n ∧ i = .int .i64 k ∧ t = .int .i64 z ∧ Hid (z = (b : Int)) ∧ Hid (Best op xs k n b) ∧ Hid (Below (w2.alloc (.cells #[.int .i64 0, .int .i64 0] 24)).heap.size (w2.alloc (.cells #[.int .i64 0, .int .i64 0] 24)) wr))
    (fun _ i _ => (intOf i).toNat)
  case atStart => exact ⟨n, 0, 0, Nat.le_refl _, rfl, rfl, rfl, Best.empty _ _ _, Below.refl _ _⟩
  case round =>
    obtain ⟨k, b, z, hkn, rfl, rfl, hz, hB, HW⟩ := hrel
    obtain ⟨x0, x1, l2, B2⟩ := box2 HW.out
    have BG := Lib.hid (below_next BB.out B2)
    have C0 := Lib.hid (keepBox B2 C0'.out)
    have C1 := Lib.hid (keepBox B2 C1'.out)
    clear B2
    have hx := h.keep BG.out
    have hox := ho.keep BG.out
    by_cases hlt : 1 ≤ k
    · obtain ⟨j, rfl⟩ : ∃ j, k = j + 1 := ⟨k - 1, by omega⟩
      obtain ⟨bb, off, y, rfl, hb, hcell, y1, y2, hy⟩ := hx.round (k := j) (by omega)
      obtain ⟨bo, offo, o, rfl, hbo', hcello, hoy⟩ := hox.round (k := j) (by omega)
      obtain ⟨s1, s2, s3⟩ := hB.out.cons (by omega) hoy.out hy.out
      have z1 : ((j + 1 : Nat) : Int) = (j : Int) + 1 := by omega
      have z2 : (j : Int) + 1 - 1 = (j : Int) := by omega
      have z3 : (1 : Int) ≤ (j : Int) + 1 := by omega
      have z4 : (j : Int) < (n : Int) := by omega
      have z5 : (0 : Int) ≤ (j : Int) := by omega
      have zw : IntKind.i64.wrap ((j : Int) + 1 - 1) = (j : Int) := by rw [z2]; exact IntWalk.i64_in _ (by omega)
      clear z1
      rw [show ((j + 1 : Nat) : Int) = (j : Int) + 1 by omega]
      cases o
      · have S := Lib.hid (s1 rfl)
        clear s1 s2 s3
        go_wp2_with fail
        go_quiet (fail)
        go_wp2_with fail
        go_roundw
        case rel => exact ⟨j, b, z, by omega, by first | rfl | go_num, rfl, hz, S, below_next HW.out (below_drewN _ _)⟩
        case measure => simp [intOf]
      · cases b with
        | zero =>
          have S := Lib.hid (s2 rfl rfl)
          clear s1 s2 s3
          obtain rfl : z = 0 := by have := hz.out; omega
          go_wp2_with fail
          go_quiet (fail)
          go_wp2_with fail
          go_roundw
          case rel => exact ⟨j, j + 1, j + 1, by omega, by first | rfl | go_num, rfl, by show (_ : Int) = _; omega, S, below_next HW.out (below_drewN _ _)⟩
          case measure => simp [intOf]
        | succ m =>
          obtain ⟨m1, m2, x, hm⟩ := hB.out.at_
          obtain rfl : z = (m : Int) + 1 := by have := hz.out; omega
          have S3 := s3 m x rfl rfl hm
          clear s1 s2 s3
          obtain ⟨b2, off2, y', e2, hb2, hcell2, _, _, hy2⟩ := hx.round (k := m) (by omega)
          cases e2
          obtain rfl : y' = x := by have := hy2.out; rw [hm] at this; cases this; rfl
          have hn2 : (m : Int) < (n : Int) := by omega
          have hn3 : (m : Int) + 1 - 1 = (m : Int) := by omega
          have hn4 : ((m : Int) + 1 == 0) = false := by simp; omega
          have hn5 : (0 : Int) ≤ (m : Int) := by omega
          have zw2 : IntKind.i64.wrap ((m : Int) + 1 - 1) = (m : Int) := by rw [hn3]; exact IntWalk.i64_in _ (by omega)
          by_cases hyx : y' ≤ y
          · have S := Lib.hid (S3.1 hyx)
            clear S3
            go_wp2_with fail
            go_quiet (fail)
            go_wp2_with fail
            go_roundw
            case rel => exact ⟨j, j + 1, j + 1, by omega, by first | rfl | go_num, rfl, by show (_ : Int) = _; omega, S, below_next HW.out (below_drewN _ _)⟩
            case measure => simp [intOf]
          · have S := Lib.hid (S3.2 hyx)
            have hyx' : decide (y' ≤ y) = false := by simpa using hyx
            clear S3
            go_wp2_with fail
            go_quiet (fail)
            go_wp2_with fail
            go_roundw
            case rel => exact ⟨j, m + 1, m + 1, by omega, by first | rfl | go_num, rfl, by show (_ : Int) = _; omega, S, below_next HW.out (below_drewN _ _)⟩
            case measure => simp [intOf]
    · obtain rfl : k = 0 := by omega
      obtain rfl : b = q := hB.out.uniq hq.out
      have hK := (Blk.new w2 24 #[.int .i64 0, .int .i64 0]).keep HW.out
      have f0 := hK.frozen 0
      have f1 := hK.frozen 1
      cases b with
      | zero =>
        obtain rfl : z = 0 := hz.out
        obtain rfl : code = 6 := hcode.out
        have hs := (hK.set_ 0 (.int .i64 6)).set_ 1 (.int .i64 0)
        have s0 := hs.cell 0
        have s1 := hs.cell 1
        simp at s0 s1
        have HX0 := Lib.hid s0
        have HX1 := Lib.hid s1
        have hne : w1.heap.size ≠ w2.heap.size := by omega
        have u0 : ((wr.setCell ⟨w2.heap.size, 0, none⟩ (.int .i64 6)).setCell ⟨w2.heap.size, 1, none⟩ (.int .i64 0)).cell? ⟨w1.heap.size, 0, none⟩ = some (.int .i64 6) := by
          rw [World.cell?_setCell_other _ _ _ _ (by simp <;> omega), World.cell?_setCell_other _ _ _ _ (by simp <;> omega)]; exact C0.out
        have u1 : ((wr.setCell ⟨w2.heap.size, 0, none⟩ (.int .i64 6)).setCell ⟨w2.heap.size, 1, none⟩ (.int .i64 0)).cell? ⟨w1.heap.size, 1, none⟩ = some (.int .i64 0) := by
          rw [World.cell?_setCell_other _ _ _ _ (by simp <;> omega), World.cell?_setCell_other _ _ _ _ (by simp <;> omega)]; exact C1.out
        have HC0 := Lib.hid u0
        have HC1 := Lib.hid u1
        have HBG : Hid (Below w.heap.size w ((wr.setCell ⟨w2.heap.size, 0, none⟩ (.int .i64 6)).setCell ⟨w2.heap.size, 1, none⟩ (.int .i64 0))) :=
          (BG.out.setCell (p := ⟨w2.heap.size, 0, none⟩) (by have := BB.out.size; simpa using this) _).setCell (p := ⟨w2.heap.size, 1, none⟩) (by have := BB.out.size; simpa using this) _
        clear hs s0 s1 u0 u1
        go_wp2_with fail
        refine (next_best _ _ 2 2 2 [3, 4] [true, true] _ (Ints.keep (ints_made _ 3 [3, 4] (by simp) (by simp [I64]) (by decide)) (below_new _ _)) (bools_made _ 4 [true, true] (by simp) (by decide)) (by rfl) 2 0 best_34 (by rfl)).mono ?_
        rintro e w3 ⟨rfl, hb3⟩
        have B3 := (below_box (below_box hb3).1).1
        have x0' := keepBox B3 HX0.out
        have x1' := keepBox B3 HX1.out
        have q0 := keepBox B3 HC0.out
        have q1 := keepBox B3 HC1.out
        have l3 := B3.size
        try simp at l3
        have l4 : w1.heap.size < w3.heap.size := by omega
        have l5 : w2.heap.size < w3.heap.size := by omega
        have BF := Lib.hid (below_alloc (below_next HBG.out B3) (.cells #[.int .i64 0, .int .i64 0] 24))
        clear hb3 B3 l3
        go_wp2_with fail
        go_ret
        exact ⟨rfl, BF.out⟩
      | succ m =>
        obtain rfl : z = (m : Int) + 1 := by have := hz.out; omega
        obtain rfl : code = 0 := by have := hcode.out; simpa using this
        have HX0 := Lib.hid x0
        have HX1 := Lib.hid x1
        have HC0 := C0
        have HC1 := C1
        have HBG := BG
        obtain ⟨m1, m2, _, _⟩ := hB.out.at_
        have hn4 : ((m : Int) + 1 == 0) = false := by simp; omega
        go_wp2_with fail
        refine (next_best _ _ 2 2 2 [3, 4] [true, true] _ (Ints.keep (ints_made _ 3 [3, 4] (by simp) (by simp [I64]) (by decide)) (below_new _ _)) (bools_made _ 4 [true, true] (by simp) (by decide)) (by rfl) 2 0 best_34 (by rfl)).mono ?_
        rintro e w3 ⟨rfl, hb3⟩
        have B3 := (below_box (below_box hb3).1).1
        have x0' := keepBox B3 HX0.out
        have x1' := keepBox B3 HX1.out
        have q0 := keepBox B3 HC0.out
        have q1 := keepBox B3 HC1.out
        have l3 := B3.size
        try simp at l3
        have l4 : w1.heap.size < w3.heap.size := by omega
        have l5 : w2.heap.size < w3.heap.size := by omega
        have BF := Lib.hid (below_alloc (below_next HBG.out B3) (.cells #[.int .i64 0, .int .i64 0] 24))
        clear hb3 B3 l3
        go_wp2_with fail
        go_ret
        exact ⟨rfl, BF.out⟩

theorem best_ex (op : List Bool) (xs : List Int) (h : op.length = xs.length) : ∀ k, k ≤ xs.length → ∃ b, Best op xs 0 k b := by
  intro k
  induction k with
  | zero => intro _; exact ⟨0, Best.empty _ _ _⟩
  | succ k ih =>
    intro hk
    obtain ⟨b, hb⟩ := ih (by omega)
    obtain ⟨s1, s2, s3⟩ := hb.snoc (List.getElem?_eq_getElem (by omega)) (List.getElem?_eq_getElem (by omega))
    cases ho : op[k] with
    | false => exact ⟨_, s1 ho⟩
    | true =>
      cases b with
      | zero => exact ⟨_, s2 ho rfl⟩
      | succ m =>
        obtain ⟨_, _, y, hy⟩ := hb.at_
        have := s3 m y ho rfl hy
        by_cases h1 : y < xs[k]
        · exact ⟨_, this.1 h1⟩
        · exact ⟨_, this.2 h1⟩

theorem orderNexts_walk {A B : Option Addr} {n c m d : Nat} {xs : List Int} {op : List Bool} (w : World) (h : Ints w A n c xs) (ho : Bools w B m d op) :
    Calls Try.prog 6 #[.slice A n c, .slice B m d] w fun e w' => e = .returned (.bool true) ∧ Below w.heap.size w w' := by
  have hbo := ho.bd
  by_cases h0 : (scoresWrong xs).1 = 0
  · have hr := scoresWrong_code xs h0
    by_cases hne : m = n
    · subst hne
      obtain ⟨b, hb⟩ := best_ex op xs (by rw [h.len, ho.len]) m (by rw [h.len]; omega)
      exact orderNexts_best w h ho hr b hb
    · exact orderNexts_size w h (by omega) hr hne
  · exact orderNexts_wrong w h _ _ (show scoresWrong xs = ((scoresWrong xs).1, (scoresWrong xs).2) from rfl) h0
end Go.Proofs.Ytehhhidjgngibaa
