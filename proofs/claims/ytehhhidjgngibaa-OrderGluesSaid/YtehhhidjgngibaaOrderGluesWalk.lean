/- The walk of the law OrderGlues. -/
import Derived.Test.YtehhhidjgngibaaRefA
import Derived.Test.YtehhhidjgngibaaGlue
namespace Go.Proofs.Ytehhhidjgngibaa
open Go.RowKit

/-- A new block of ints, read as a slice. -/
theorem ints_new (w : World) (t : TypeId) (xs : List Int) (hx : ∀ x ∈ xs, I64 x) (hl : xs.length ≤ maxLen) : Ints (w.alloc (.cells (xs.map (Value.int .i64)).toArray t)) (some ⟨w.heap.size, 0, none⟩) xs.length xs.length xs := by
  refine ⟨⟨by simp, Nat.le_refl _, hl, fun _ => ⟨w.heap.size, 0, rfl, by simp, fun k _ => ?_⟩⟩, hx⟩
  have := (Blk.new w t (xs.map (Value.int .i64)).toArray).cell (0 + k)
  rw [this]
  simp

set_option maxHeartbeats 1000000 in
set_option maxRecDepth 100000 in
theorem orderGlues_walk {A : Option Addr} {n c : Nat} {xs : List Int} (w : World) (h : Ints w A n c xs) :
    Calls Try.prog 3 #[.slice A n c] w fun e w' => e = .returned (.bool true) ∧ Below w.heap.size w w' := by
  have hbd := h.bd
  by_cases hn : 120 < n
  · go_enter Try.func3, Try.ntmps3
    go_wp2_with fail
    refine (glue_many _ _ _ _ hn (by omega)).mono ?_
    rintro e w1 ⟨rfl, hb1⟩
    go_wp2_with fail
    go_ret
    exact ⟨rfl, below_alloc hb1 _⟩
  · obtain ⟨r1, r2, r3, hr⟩ : ∃ r1 r2 r3, glueF [] xs 0 = (r1, r2, r3) := ⟨_, _, _, rfl⟩
    have HR := Lib.hid hr
    clear hr
    go_enter Try.func3, Try.ntmps3
    go_wp2_with fail
    refine (glue_any _ _ _ _ _ h (by omega) _ HR).mono ?_
    rintro e w1 ⟨rfl, hb1⟩
    dsimp only
    go_wp2_with fail
    go_loopw [5, 6] (fun m i wr => ∃ (k many : Nat), k ≤ n ∧ many ≤ k ∧ m = .int .i64 many ∧ i = .int .i64 k ∧ Below (w1.alloc (.cells #[.int .i64 r2, .int .i64 r3] 24)).heap.size (w1.alloc (.cells #[.int .i64 r2, .int .i64 r3] 24)) wr ∧ Hid (glueF (xs.take k) (xs.drop k) many = (r1, r2, r3)))
      (fun _ i _ => n - (intOf i).toNat)
    case atStart => exact ⟨0, 0, Nat.zero_le _, Nat.le_refl _, rfl, rfl, Below.refl _ _, HR.out⟩
    case round =>
      obtain ⟨k, many, hk, hm, rfl, rfl, hW, hg⟩ := hrel
      obtain ⟨c0, c1, l1, B1⟩ := box2 hW
      have B0 := Lib.hid (below_next hb1 B1)
      have HW := Lib.hid hW
      clear hW B1
      have hx := h.keep B0.out
      by_cases hlt : k < n
      · obtain ⟨b, off, y, rfl, hb, hcell, y1, y2, hy⟩ := hx.round hlt
        by_cases hy0 : y < 0
        · have hr' : (r1, r2, r3) = (0, 3, (k : Int)) := by
            rw [← hg.out, drop_cons_of hy.out, glueF, if_pos hy0]
            have : (xs.take k).length = k := by rw [List.length_take, h.len]; omega
            rw [this]
          cases hr'
          go_wp2_with fail
          go_ret
          exact ⟨rfl, B0.out⟩
        · have hsl := hx.take (Nat.le_of_lt hlt)
          have z1 : (k : Int) ≤ (c : Int) := by omega
          have z2 : k ≤ c := by omega
          have z3 : (0 : Int) ≤ (k : Int) := by omega
          have z4 : (k : Int) < (n : Int) := by omega
          obtain ⟨r, hh⟩ : ∃ r, Hid (hasB (xs.take k) y = r) := ⟨_, rfl⟩
          cases r
          · go_wp2_with fail
            go_quiet ((go_at_call 16; exact RetQ.quiet (has_any _ _ _ _ _ _ (hsl.drewN _) _ hh)))
            go_wp2_with fail
            go_roundw
            case rel => exact ⟨k + 1, many + 1, by omega, by omega, by go_num, by go_num, below_next HW.out (below_drewN _ _), by rw [take_snoc_of hy.out, ← hg.out, drop_cons_of hy.out, glueF, if_neg (by omega), if_neg (by rw [hh.out]; simp)]; rfl⟩
            case measure => simp [intOf]; omega
          · go_wp2_with fail
            go_quiet ((go_at_call 16; exact RetQ.quiet (has_any _ _ _ _ _ _ (hsl.drewN _) _ hh)))
            go_wp2_with fail
            go_roundw
            case rel => exact ⟨k + 1, many, by omega, by omega, by go_num, by go_num, below_next HW.out (below_drewN _ _), by rw [take_snoc_of hy.out, ← hg.out, drop_cons_of hy.out, glueF, if_neg (by omega), if_pos hh.out]; rfl⟩
            case measure => simp [intOf]; omega
      · have hr' : (r1, r2, r3) = ((many : Int), 0, 0) := by
          rw [← hg.out, List.drop_of_length_le (by rw [h.len]; omega), glueF]
        cases hr'
        go_wp2_with fail
        refine (glue_any _ _ _ [4, 4, 2] _ (ints_new wr 3 [4, 4, 2] (by simp [I64]) (by decide)) (by decide) (2, 0, 0) (by rfl)).mono ?_
        rintro e w2 ⟨rfl, hb2⟩
        dsimp only
        obtain ⟨B2, l2⟩ := below_box hb2
        have c2 := keepBox B2 c0
        have l3 : w1.heap.size < w2.heap.size := by omega
        have BB := Lib.hid (below_alloc (below_next B0.out B2) (.cells #[.int .i64 0, .int .i64 0] 24))
        clear hb2 B2 c0 c1
        go_wp2_with fail
        go_ret
        exact ⟨rfl, BB.out⟩
end Go.Proofs.Ytehhhidjgngibaa
