/- The walk of OrderKeeps: it returns true. (Printed by wip/tools/keeps.py.) -/
import Derived.Test.YtecgmgidfjbamaaKeptRef
namespace Go.Proofs.Ytecgmgidfjbamaa
open Go.RowKit
set_option linter.unusedSimpArgs false

theorem keeps_one : keepS [5, 4] [3, 3] 1 = ([1], 0, 0) := by decide

set_option maxHeartbeats 8000000 in
set_option maxRecDepth 100000 in
theorem orderKeeps_walk {A B : Option Addr} {n c m d : Nat} {gs ss : List Int} {many : Int} (w : World) (h : Ints w A n c gs) (h' : Ints w B m d ss) (hmany : I64 many) :
    Calls Try.prog 14 #[.slice A n c, .slice B m d, .int .i64 many] w fun e w' => e = .returned (.bool true) ∧ Below w.heap.size w w' := by
  have hbd := h.bd
  have hbd' := h'.bd
  have hlg := Lib.hid h.len
  have hls := Lib.hid h'.len
  have hmm := hmany
  unfold I64 at hmm
  have G := Lib.hid h
  have V := Lib.hid h'
  clear h h'
  by_cases h300 : 300 < n ∧ n ≤ 3000
  · obtain ⟨h1, h2⟩ := h300
    have d1 : decide ((300 : Int) < (n : Int)) = true := by simp; omega
    have d2 : decide ((n : Int) ≤ (3000 : Int)) = true := by simp; omega
    go_enter Try.func14, Try.ntmps14
    go_wp2_with fail
    go_ret
    exact ⟨rfl, Below.refl _ _⟩
  obtain ⟨Z, z1, z2, hZ⟩ : ∃ Z z1 z2, Hid (keepS gs ss many = (Z, z1, z2)) := ⟨_, _, _, rfl⟩
  by_cases hn3 : 3000 < n
  · obtain ⟨rfl, rfl, rfl⟩ : [] = Z ∧ 2 = z1 ∧ 0 = z2 := by have := hZ.out; rw [keepS, if_pos (by rw [hlg.out]; exact hn3)] at this; simpa using this
    have d1 : decide ((300 : Int) < (n : Int)) = true := by simp; omega
    have d2 : decide ((n : Int) ≤ (3000 : Int)) = false := by simp; omega
    have d3 : decide ((3000 : Int) < (n : Int)) = true := by simp; omega
    clear h300
    go_enter Try.func14, Try.ntmps14
    go_wp2_with fail
    refine (keep_any A B n c m d gs ss many w G.out V.out hmany [] 2 0 hZ).mono ?_
    rintro e w1 ⟨A2, n2, c2, rfl, hO2, hb1⟩
    obtain rfl : 0 = n2 := by have := hO2.len; simpa using this
    have HB := Lib.hid hb1
    clear hO2 hb1
    go_wp2_with fail
    go_loopw [10] (fun s wr => s = .int .i64 0 ∧ Hid (wr = (w1.alloc (.cells #[.int .i64 2, .int .i64 0] 28)).alloc (.cells #[.int .i64 2, .int .i64 0] 28))) (fun _ _ => 0)
    case atStart => exact ⟨rfl, by first | rfl | (show _ = _; simp)⟩
    case round =>
      obtain ⟨rfl, hw⟩ := hrel
      rw [hw.out]
      by_cases hn0 : 0 < n
      · go_wp2_with fail
        go_ret
        exact ⟨rfl, below_alloc (below_alloc HB.out _) _⟩
      · exfalso; omega
  have d3 : decide ((3000 : Int) < (n : Int)) = false := by simp; omega
  have h3 : n ≤ 300 := by omega
  have d1 : decide ((300 : Int) < (n : Int)) = false := by simp; omega
  clear h300
  by_cases hnm : m = n
  rotate_left
  · obtain ⟨rfl, rfl, rfl⟩ : [] = Z ∧ 9 = z1 ∧ -1 = z2 := by have := hZ.out; rw [keepS, if_neg (by rw [hlg.out]; omega), if_pos (by rw [hlg.out, hls.out]; exact hnm)] at this; simpa using this
    have d4 : ((m : Int) != (n : Int)) = true := by simp; omega
    go_enter Try.func14, Try.ntmps14
    go_wp2_with fail
    refine (keep_any A B n c m d gs ss many w G.out V.out hmany [] 9 (-1) hZ).mono ?_
    rintro e w1 ⟨A2, n2, c2, rfl, hO2, hb1⟩
    obtain rfl : 0 = n2 := by have := hO2.len; simpa using this
    have HB := Lib.hid hb1
    clear hO2 hb1
    go_wp2_with fail
    go_loopw [10] (fun s wr => s = .int .i64 0 ∧ Hid (wr = (w1.alloc (.cells #[.int .i64 9, .int .i64 (-1)] 28)).alloc (.cells #[.int .i64 9, .int .i64 (-1)] 28))) (fun _ _ => 0)
    case atStart => exact ⟨rfl, by first | rfl | (show _ = _; simp)⟩
    case round =>
      obtain ⟨rfl, hw⟩ := hrel
      rw [hw.out]
      by_cases hn0 : 0 < n
      · go_wp2_with fail
        go_ret
        exact ⟨rfl, below_alloc (below_alloc HB.out _) _⟩
      · obtain rfl : n = 0 := by omega
        go_wp2_with fail
        go_ret
        exact ⟨rfl, below_alloc (below_alloc HB.out _) _⟩
  subst hnm
  have d4 : ((m : Int) != (m : Int)) = false := by simp
  obtain ⟨p1, p2, hp⟩ : ∃ p1 p2, Hid (negF gs ss 0 = (p1, p2)) := ⟨_, _, rfl⟩
  have hZ2 : Hid ((if p1 ≠ 0 then ([], p1, p2) else if many < 0 then ([], 10, 0) else ((keptF gs ss many).map (fun i : Nat => (i : Int)), 0, 0)) = (Z, z1, z2)) := by have := hZ.out; rw [keepS, if_neg (by rw [hlg.out]; omega), if_neg (by rw [hlg.out, hls.out]; simp), hp.out] at this; exact this
  go_enter Try.func14, Try.ntmps14
  go_wp2_with fail
  refine (keep_any A B m c m d gs ss many w G.out V.out hmany Z z1 z2 hZ).mono ?_
  rintro e w1 ⟨A2, n2, c2, rfl, hO2, hb1⟩
  have hl2 := hO2.len
  rw [List.length_map] at hl2
  have hc2 := hO2.sl.le
  have hc3 := hO2.sl.cap
  unfold maxLen at hc3
  obtain ⟨w0, hw0⟩ : ∃ w0 : World, w0 = (w1.alloc (.cells #[.int .i64 z1, .int .i64 z2] 28)).alloc (.cells #[.int .i64 0, .int .i64 0] 28) := ⟨_, rfl⟩
  have hb2 : Below w1.heap.size w1 w0 := by rw [hw0]; exact below_alloc (below_new _ _) _
  obtain ⟨KF', KX', _, l0⟩ := two_blks (w := w1) (wr := w0) (t := 28) (t' := 28) (cs := #[.int .i64 z1, .int .i64 z2]) (cs' := #[.int .i64 0, .int .i64 0]) (by rw [hw0]; exact Below.refl _ _)
  have HW0 := Lib.hid hw0
  have BW := Lib.hid (below_next hb1 hb2)
  have O2 := Lib.hid hO2
  have HB2 := Lib.hid hb2
  have KF0 := Lib.hid KF'
  have KX0 := Lib.hid KX'
  have G0 := Lib.hid (G.out.keep BW.out)
  have V0 := Lib.hid (V.out.keep BW.out)
  have hw1 : w.heap.size ≤ w1.heap.size := hb1.size
  clear hw0 KF' KX' hO2 hb1 hb2 hZ
  go_wp2_with fail
  rw [← HW0.out]
  clear HW0
  go_loopw [10] (fun s wr => ∃ (i : Nat) (x1 x2 : Int), i ≤ m ∧ s = .int .i64 i ∧ Hid (Blk wr (w1.heap.size + 1) 28 #[.int .i64 x1, .int .i64 x2]) ∧ Hid (Below (w1.heap.size + 1) w0 wr) ∧ Hid ((if x1 ≠ 0 then (x1, x2) else negF (gs.drop i) (ss.drop i) i) = (p1, p2)) ∧ Hid (x1 = 0 → x2 = 0)) (fun s _ => m - (intOf s).toNat)
  case atStart => exact ⟨0, 0, 0, Nat.zero_le _, rfl, KX0, Below.refl _ _, by rw [if_neg (by simp)]; exact hp, fun _ => rfl⟩
  case round =>
    obtain ⟨i, x1, x2, hi, rfl, KX, hbl, hgo, hxz⟩ := hrel
    have KF : Hid (Blk wr w1.heap.size 28 #[.int .i64 z1, .int .i64 z2]) := (hbl.out.block _ (by omega)).trans KF0.out
    have a0 := KX.out.cell 0
    have a1 := KX.out.cell 1
    have fa0 := KX.out.frozen 0
    have fa1 := KX.out.frozen 1
    have b0 := KF.out.cell 0
    have b1 := KF.out.cell 1
    simp at a0 a1 b0 b1
    have la := KX.out.lt
    have lb := KF.out.lt
    have BWR := Lib.hid (BW.out.trans (hbl.out.mono (show w.heap.size ≤ w1.heap.size + 1 by omega)))
    have GR : Hid (Ints wr A m c gs) := G.out.keep BWR.out
    have VR : Hid (Ints wr B m d ss) := V.out.keep BWR.out
    by_cases hgon : i < m ∧ x1 = 0
    · obtain ⟨him, rfl⟩ := hgon
      obtain ⟨bA, oA, x, hAe, hbA, hgx, y1, y2, hxk⟩ := GR.out.round him
      obtain ⟨bB, oB, y, hBe, hbB, hsy, y3, y4, hyk⟩ := VR.out.round him
      subst hAe hBe
      have hgo2 : Hid ((if x < 0 ∨ y < 0 then ((3 : Int), (i : Int)) else negF (gs.drop (i + 1)) (ss.drop (i + 1)) (i + 1)) = (p1, p2)) := by have := hgo.out; rw [if_neg (by simp), drop_cons_of hxk.out, drop_cons_of hyk.out, negF] at this; exact this
      have u1 : (0 : Int) ≤ (i : Int) := by omega
      have u2 : (i : Int) < (m : Int) := by omega
      have B2 := Lib.hid (below_put2 hbl.out (g := w1.heap.size + 1) (Nat.le_refl _) (.int .i64 3) (.int .i64 i))
      have K2 : Hid (Blk ((wr.setCell ⟨w1.heap.size + 1, 0, none⟩ (.int .i64 3)).setCell ⟨w1.heap.size + 1, 1, none⟩ (.int .i64 i)) (w1.heap.size + 1) 28 #[.int .i64 3, .int .i64 i]) := by have := (KX.out.set_ 0 (.int .i64 3)).set_ 1 (.int .i64 i); simpa [Hid] using this
      by_cases hneg : x < 0 ∨ y < 0
      · have hpp : ((3 : Int), (i : Int)) = (p1, p2) := by have := hgo2.out; rw [if_pos hneg] at this; exact this
        by_cases hx0 : x < 0
        · clear hneg
          go_wp2_with fail
          go_roundw
          case rel => exact ⟨i + 1, 3, i, by omega, by go_num, K2, B2, by rw [if_pos (by decide)]; exact hpp, fun e => by simp at e⟩
          case measure => simp [intOf]; omega
        · have hy0 : y < 0 := by omega
          clear hneg
          go_wp2_with fail
          go_roundw
          case rel => exact ⟨i + 1, 3, i, by omega, by go_num, K2, B2, by rw [if_pos (by decide)]; exact hpp, fun e => by simp at e⟩
          case measure => simp [intOf]; omega
      · have hx0 : ¬ x < 0 := by omega
        have hy0 : ¬ y < 0 := by omega
        have hgo3 : Hid (negF (gs.drop (i + 1)) (ss.drop (i + 1)) (i + 1) = (p1, p2)) := by have := hgo2.out; rw [if_neg hneg] at this; exact this
        clear hneg
        go_wp2_with fail
        go_roundw
        case rel => exact ⟨i + 1, 0, x2, by omega, by go_num, KX, hbl, by rw [if_neg (by simp)]; exact hgo3, hxz⟩
        case measure => simp [intOf]; omega
    · have hrr : (x1, x2) = (p1, p2) := by
        by_cases hc : x1 = 0
        · have him : ¬ i < m := fun e => hgon ⟨e, hc⟩
          have := hgo.out
          rw [if_neg (by simpa using hc), List.drop_of_length_le (by rw [hlg.out]; omega), negF] at this
          · rw [← this, hc, hxz.out hc]
          · simp
        · have := hgo.out
          rw [if_pos hc] at this
          exact this
      obtain ⟨rfl, rfl⟩ : x1 = p1 ∧ x2 = p2 := by simpa using hrr
      clear hrr hgo
      by_cases hx1 : x1 = 0
      · subst hx1
        obtain rfl : x2 = 0 := hxz.out rfl
        have him : ¬ i < m := fun e => hgon ⟨e, rfl⟩
        have hZ3 : Hid ((if many < 0 then ([], (10 : Int), (0 : Int)) else ((keptF gs ss many).map (fun i : Nat => (i : Int)), 0, 0)) = (Z, z1, z2)) := by have := hZ2.out; rw [if_neg (by simp)] at this; exact this
        clear hgon
        by_cases hmn : many < 0
        · obtain ⟨rfl, rfl, rfl⟩ : [] = Z ∧ 10 = z1 ∧ 0 = z2 := by have := hZ3.out; rw [if_pos hmn] at this; simpa using this
          obtain rfl : 0 = n2 := by simpa using hl2
          have B2 := Lib.hid ((BW.out.trans ((below_put2 hbl.out (g := w1.heap.size + 1) (Nat.le_refl _) (.int .i64 10) (.int .i64 0)).mono (show w.heap.size ≤ w1.heap.size + 1 by omega))))
          have K2 := Lib.hid (show Blk ((wr.setCell ⟨w1.heap.size + 1, 0, none⟩ (.int .i64 10)).setCell ⟨w1.heap.size + 1, 1, none⟩ (.int .i64 0)) (w1.heap.size + 1) 28 #[.int .i64 10, .int .i64 0] from by have := (KX.out.set_ 0 (.int .i64 10)).set_ 1 (.int .i64 0); simpa using this)
          have K3 := Lib.hid ((KF.out.far (p := ⟨w1.heap.size + 1, 0, none⟩) (by simp) (.int .i64 10)).far (p := ⟨w1.heap.size + 1, 1, none⟩) (by simp) (.int .i64 0))
          have v0 := K2.out.cell 0
          have v1 := K2.out.cell 1
          have v2 := K3.out.cell 0
          have v3 := K3.out.cell 1
          simp only [List.getElem?_toArray, List.getElem?_cons_zero, List.getElem?_cons_succ] at v0 v1 v2 v3
          go_wp2_with fail
          go_ret
          exact ⟨rfl, B2.out⟩
        · obtain ⟨rfl, rfl, rfl⟩ : (keptF gs ss many).map (fun i : Nat => (i : Int)) = Z ∧ 0 = z1 ∧ 0 = z2 := by have := hZ3.out; rw [if_neg hmn] at this; simpa using this
          obtain ⟨wo, hwo⟩ : ∃ wo : World, wo = wr := ⟨_, rfl⟩
          subst hwo
          have I2R : Hid (Ints wo A2 n2 c2 ((keptF gs ss many).map (fun i : Nat => (i : Int)))) := by
            refine (Own.ints O2.out fun x hx => ?_).keep (HB2.out.trans (hbl.out.mono (show w1.heap.size ≤ w1.heap.size + 1 by omega)))
            obtain ⟨y, hy, rfl⟩ := List.mem_map.1 hx
            have := List.mem_range.1 (List.mem_filter.1 hy).1
            rw [hlg.out] at this
            unfold I64
            omega
          clear O2
          have HGS := Lib.hid (ints_made wo 3 [5, 4] (b := wo.heap.size) rfl (by simp [I64]) (by decide))
          go_wp2_with fail
          refine (keep_any _ _ 2 2 2 2 [5, 4] [3, 3] 1 _ (HGS.out.keep (below_new _ _)) (ints_made _ 3 [3, 3] (by simp) (by simp [I64]) (by decide)) ⟨by omega, by omega⟩ [1] 0 0 keeps_one).mono ?_
          rintro e w4 ⟨A4, n4, c4, rfl, hO4, hb4'⟩
          have hb4 := below_next (below_alloc (below_new wo (.cells #[.int .i64 5, .int .i64 4] 3)) (.cells #[.int .i64 3, .int .i64 3] 3)) hb4'
          obtain rfl : 1 = n4 := by have := hO4.len; simpa using this
          have I4 := Lib.hid ((hO4.ints (by simp [I64])).keep (below_new w4 (.cells #[.int .i64 0, .int .i64 0] 28)))
          have B5 := Lib.hid (below_alloc hb4 (.cells #[.int .i64 0, .int .i64 0] 28))
          have I2 := Lib.hid (I2R.out.keep B5.out)
          have hb42 := (hO4.ints (by simp [I64])).bd
          have g0 := keepBox hb4 a0
          have g1 := keepBox hb4 a1
          have h0 := keepBox hb4 b0
          have h1 := keepBox hb4 b1
          have lx := (KX.out.keep hb4).lt
          have lz := (KF.out.keep hb4).lt
          clear hO4 hb4' hb4 a0 a1 b0 b1 la lb fa0 fa1
          go_wp2_with fail
          refine (kept_any A B m c d gs ss many _ (GR.out.keep B5.out) (VR.out.keep B5.out) hmany (by omega)).mono ?_
          rintro e w6 ⟨A6, n6, c6, rfl, hO6, hb6⟩
          have I6 := Lib.hid (hO6.ints (fun x hx => by
            obtain ⟨y, hy, rfl⟩ := List.mem_map.1 hx
            have := List.mem_range.1 (List.mem_filter.1 hy).1
            rw [hlg.out] at this
            unfold I64
            omega))
          have k0 := (Blk.new w4 28 #[.int .i64 0, .int .i64 0]).keep hb6
          have t0 := k0.cell 0
          have t1 := k0.cell 1
          have lt0 := k0.lt
          simp at t0 t1
          have B6 := Lib.hid (below_next B5.out hb6)
          replace I4 := Lib.hid (I4.out.keep hb6)
          replace I2 := Lib.hid (I2.out.keep hb6)
          clear k0 hO6 hb6 g0 g1 h0 h1 lx lz
          go_wp2_with fail
          refine ((same_any _ _ _ _ _ _ _ _ _ I2.out I6.out true (by show _ = _; rw [sameB_iff])).mono (fun _ _ hh => hh.v)).mono ?_
          rintro e w7 ⟨rfl, hb7⟩
          have B7 := Lib.hid (below_next B6.out hb7)
          have t2 := keepBox hb7 t0
          have lt2 : w4.heap.size < w7.heap.size := by have := hb7.size; omega
          replace I4 := Lib.hid (I4.out.keep hb7)
          clear hb7 t0 t1 lt0
          go_wp2_with fail
          refine ((same_any _ _ _ _ _ _ _ [1] _ (I4.out.keep (below_new _ _)) (ints_made _ 3 [1] (by simp) (by simp [I64]) (by decide)) true (by show _ = _; rw [sameB_iff])).mono (fun _ _ hh => hh.v)).mono ?_
          rintro e w8 ⟨rfl, hb8⟩
          have B8 := Lib.hid (below_next (below_alloc B7.out _) hb8)
          clear hb8
          go_wp2_with fail
          go_ret
          exact ⟨rfl, below_next BWR.out B8.out⟩
      · have hx1' : (x1 != 0) = true := by simpa using hx1
        have hx1'' : (x1 == 0) = false := by simpa using hx1
        obtain ⟨rfl, rfl, rfl⟩ : [] = Z ∧ x1 = z1 ∧ x2 = z2 := by have := hZ2.out; rw [if_pos hx1] at this; simpa using this
        obtain rfl : 0 = n2 := by simpa using hl2
        have e1 : (x1 == x1) = true := by simp
        have e2 : (x2 == x2) = true := by simp
        by_cases him : i < m
        · clear hgon
          go_wp2_with fail
          go_ret
          exact ⟨rfl, BWR.out⟩
        · clear hgon
          go_wp2_with fail
          go_ret
          exact ⟨rfl, BWR.out⟩
end Go.Proofs.Ytecgmgidfjbamaa
