/- Contract of order.Glue: it counts the unlike levels, or tells the first that is below 0. -/
import Derived.Test.YtehhhidjgngibaaProg
import Derived.Test.YtehhhidjgngibaaBase
import Derived.Test.YtehhhidjgngibaaPlain
import Derived.Maps.OwnSet
namespace Go.Proofs.Ytehhhidjgngibaa
open Go.RowKit Go.Maps Go.WideMaps

theorem keyed_int : Keyed Try.prog 3 := int_keyed Try.underlying3

set_option maxHeartbeats 400000 in
theorem glue_many (A : Option Addr) (n c : Nat) (w : World) (h : 120 < n) (hn : n ≤ 9223372036854775807) :
    Calls Try.prog 15 #[.slice A n c] w (RetIF 0 2 0 w) := by
  go_enter Try.func15, Try.ntmps15
  go_wp2_with fail
  exact bodyPost_ret (v := .tuple #[.int .i64 0, .agg #[.int .i64 2, .int .i64 0]]) (by simp [results, Try.results15, go_sem]) rfl ⟨rfl, below_new _ _⟩

set_option maxHeartbeats 400000 in
theorem glue_any (A : Option Addr) (n c : Nat) (xs : List Int) (w : World) (h : Ints w A n c xs) (hn : n ≤ 120) (r : Int × Int × Int) (hr : Hid (glueF [] xs 0 = r)) :
    Calls Try.prog 15 #[.slice A n c] w (RetIF r.1 r.2.1 r.2.2 w) := by
  have hbd := h.bd
  have hmm := @run_makeMap Try.prog
  go_enter Try.func15, Try.ntmps15
  go_wp2_with fail
  go_loopw [14] (fun i wr => ∃ (k many : Nat) (D : DataW Unit), k ≤ n ∧ i = .int .i64 k ∧ wr.ownsMap Try.prog 3 (plainElem Try.prog 4) (w.heap.size + 1) k D ∧ Below w.heap.size w wr ∧
      Hid (Blk wr w.heap.size 24 #[.int .i64 0, .int .i64 0]) ∧ Hid (Maps.size D = many ∧ ∀ x, Maps.has D (.int .i64 x) = hasB (xs.take k) x) ∧ Hid (glueF (xs.take k) (xs.drop k) many = r))
    (fun i _ => n - (intOf i).toNat)
  case atStart =>
    refine ⟨0, 0, .map [], Nat.zero_le _, rfl, ?_, below_alloc (below_new _ _) _, ?_, ?_, hr.out⟩
    · have := World.ownsMap_made (H := Unit) (w.alloc (.cells #[.int .i64 0, .int .i64 0] 24)) Try.prog 3 (plainElem Try.prog 4)
      simpa using this
    · exact (Blk.new w _ _).alloc _
    · exact ⟨rfl, fun x => rfl⟩
  case round =>
    obtain ⟨k, many, D, hk, rfl, hown, hnx, hblk, hD, hg⟩ := hrel
    have c0 := hblk.out.cell 0
    have c1 := hblk.out.cell 1
    have f0 := hblk.out.frozen 0
    have f1 := hblk.out.frozen 1
    simp at c0 c1
    by_cases hlt : k < n
    · obtain ⟨b, off, y, rfl, hb, hcell, y1, y2, hy⟩ := (h.keep hnx).round hlt
      have hkey := keyOf_int_mk (P := Try.prog) Try.underlying3 (show (Lit.int .i64 y).wf = true from WalkArith.wf_i64 (by omega))
      by_cases hy0 : y < 0
      · have hq := (hblk.out.set_ 0 (.int .i64 3)).set_ 1 (.int .i64 k)
        have q0 := hq.cell 0
        have q1 := hq.cell 1
        simp at q0 q1
        have hr' : r = (0, 3, (k : Int)) := by
          rw [← hg.out, drop_cons_of hy.out, glueF, if_pos hy0]
          have : (xs.take k).length = k := by rw [List.length_take, h.len]; omega
          rw [this]
        have HQ := Lib.hid hq
        have HR := Lib.hid hr'
        have Q0 := Lib.hid q0
        have Q1 := Lib.hid q1
        clear hq hr' q0 q1
        go_wp2_with fail
        have hB : Below w.heap.size w ((wr.setCell ⟨w.heap.size, 0, none⟩ (.int .i64 3)).setCell ⟨w.heap.size, 1, none⟩ (.int .i64 k)) :=
          (hnx.setCell (p := ⟨w.heap.size, 0, none⟩) (Nat.le_refl _) _).setCell (p := ⟨w.heap.size, 1, none⟩) (Nat.le_refl _) _
        exact bodyPost_ret (v := .tuple #[.int .i64 0, .agg #[.int .i64 3, .int .i64 k]]) (by simp [results, Try.results15, go_sem, Q0.out, Q1.out]) rfl ⟨by rw [HR.out], hB⟩
      · go_wp2_with (first | (at_mapUpdate; refine wpList_mapUpdate_own _ rfl _ _ _ 68 rfl 3 4 keyed_int Try.underlying68 (plainElem (H := Unit) Try.prog 4) (w.heap.size + 1) k _ rfl hown (by unfold maxLen; omega) _ _ _ rfl rfl hkey _ [] (plainElem_bool Try.underlying4 true) ?_; intro w1 hown1 hgrow1))
        go_roundw
        case rel =>
          obtain ⟨hs, hh⟩ := hD.out
          have ht := hown.tidy keyed_int
          refine ⟨k + 1, if hasB (xs.take k) y then many else many + 1, _, by omega, by go_num, hown1, hnx.grown hgrow1 hnx.size (fun j hj => by cases hj; omega), hblk.out.grown hgrow1 (by simp), ?_, ?_⟩
          · refine ⟨by rw [Maps.size_put ht, hh, hs], fun x => ?_⟩
            rw [take_snoc_of hy.out, hasB_append]
            by_cases hx : x = y
            · subst hx
              rw [Maps.has_put_same ht.isMap (k := .int .i64 x) trivial]
              simp [hasB]
            · rw [Maps.has_put_other (by simpa using hx), hh]
              have : ¬ y = x := fun e => hx e.symm
              simp [hasB, this]
          · rw [take_snoc_of hy.out]
            rw [← hg.out, drop_cons_of hy.out, glueF, if_neg hy0]
            rfl
        case measure => simp [intOf]; omega
    · have hq := (hblk.out.set_ 0 (.int .i64 0)).set_ 1 (.int .i64 0)
      have q0 := hq.cell 0
      have q1 := hq.cell 1
      simp at q0 q1
      have Q0 := Lib.hid q0
      have Q1 := Lib.hid q1
      clear hq q0 q1
      have hr' : r = ((many : Int), 0, 0) := by
        rw [← hg.out, List.drop_of_length_le (by rw [h.len]; omega), glueF]
      have HR := Lib.hid hr'
      clear hr'
      go_wp2_with (first | (at_len; refine wpList_len_own _ rfl _ 68 rfl 3 4 Try.underlying68 _ (w.heap.size + 1) k _ rfl hown ?_))
      have hB : Below w.heap.size w ((wr.setCell ⟨w.heap.size, 0, none⟩ (.int .i64 0)).setCell ⟨w.heap.size, 1, none⟩ (.int .i64 0)) :=
        (hnx.setCell (p := ⟨w.heap.size, 0, none⟩) (Nat.le_refl _) _).setCell (p := ⟨w.heap.size, 1, none⟩) (Nat.le_refl _) _
      exact bodyPost_ret (v := .tuple #[.int .i64 (Maps.size D), .agg #[.int .i64 0, .int .i64 0]]) (by simp [results, Try.results15, go_sem, Q0.out, Q1.out]) rfl ⟨by rw [HR.out, hD.out.1], hB⟩
end Go.Proofs.Ytehhhidjgngibaa
