/- Contract of the reference's Learnt. -/
import Derived.Test.YtabjbpkojbdgaaaTrimPlain
import Derived.Test.YtabjbpkojbdgaaaSteps
import Derived.Test.YtabjbpkojbdgaaaCloneR
import Derived.Test.YtabjbpkojbdgaaaCompact
namespace Go.Proofs.Ytabjbpkojbdgaaa
open Go.RowKit
set_option linter.unusedSimpArgs false

def RetLearnt (l : List (List Int)) (low : Nat) (w : World) (e : Ending) (w' : World) : Prop :=
  ∃ L nl cl, e = .returned (.slice L nl cl) ∧ OwnP 25 3 w' w.heap.size low L nl cl l ∧ Below w.heap.size w w'

set_option maxHeartbeats 4000000 in
set_option maxRecDepth 100000 in
theorem learnt_ref (W0 : World) (B : Option Addr) (m d : Nat) (rs : List (Int × List Int)) (w : World) (h : Steps W0 B m d rs) (hbw : Below W0.heap.size W0 w) (hm3 : m ≤ 3000) (R : List (List Int)) (hR : Hid (learntF rs = R)) :
    Calls Try.prog 34 #[.slice B m d] w (RetLearnt R W0.heap.size w) := by
  have hbd := h.bd
  have hlen := Lib.hid h.len
  have V := Lib.hid h
  have HBW := Lib.hid hbw
  have hwsz := hbw.size
  obtain ⟨i0, hi0, hz0, hz1, hz2⟩ := info_parts row_info
  have hR0 : Hid ([] ++ learntF (rs.drop 0) = R) := hR
  clear h hbw hR
  go_enter Try.func34, Try.ntmps34
  go_wp2_with fail
  go_loopw [3, 4] (fun s3 s4 wr => ∃ (k nl cl : Nat) (L : Option Addr) (l : List (List Int)), k ≤ m ∧ nl ≤ k ∧ s3 = .slice L nl cl ∧ s4 = .int .i64 k ∧ Hid (OwnP 25 3 wr w.heap.size W0.heap.size L nl cl l) ∧ Hid (l ++ learntF (rs.drop k) = R) ∧ Hid (Below w.heap.size w wr)) (fun _ i _ => m - (intOf i).toNat)
  case atStart => exact ⟨0, 0, 0, none, [], Nat.zero_le _, Nat.le_refl _, rfl, rfl, OwnP.nil _ _ _ _ _, hR0, Below.refl _ _⟩
  case round =>
    clear hR0
    obtain ⟨k, nl, cl, L, l, hk, hnl, rfl, rfl, hO, hgo, hbl⟩ := hrel
    have hwr := hbl.out.size
    by_cases hlt : k < m
    · obtain ⟨b, off, kd, X, nx, cx, xs, X2, n2, c2, i3, i4, i5, X6, n6, c6, i7, i8, hBe, hb, s0, s1, s2, s3, s4, s5, s6, s7, s8, hkd, hxs, hrk⟩ := (V.out.keep (below_next HBW.out hbl.out)).round hlt
      have hAw : Away 3 W0 W0.heap.size X nx := by
        obtain ⟨bb, oo, eB, hltb, hcc⟩ := V.out.at_ (by omega)
        rw [hBe] at eB
        cases eB
        obtain ⟨X', nx', cx', Xa, na, ca, j3, j4, j5, Xb, nb, cb, j7, j8, t0, t1, _, _, _, _, _, _, _, hI⟩ := hcc k _ hrk.out
        have e2 := keepBox (below_next HBW.out hbl.out) t1
        rw [s1] at e2
        cases e2
        exact Away.old hI (Nat.le_refl _)
      subst hBe
      have HAW := Lib.hid hAw
      have HXS := Lib.hid hxs
      have y1 : (0 : Int) ≤ (k : Int) := by omega
      have y2 : (k : Int) < (m : Int) := by omega
      have z0 := (cell_lt s0).1
      have hgo2 : Hid (l ++ (if kd = 1 then xs :: learntF (rs.drop (k + 1)) else learntF (rs.drop (k + 1))) = R) := by have := hgo.out; rw [drop_cons_of hrk.out, learntF_cons] at this; exact this
      clear hxs hgo hAw s2 s3 s4 s5 s6 s7 s8
      by_cases hk1 : kd = 1
      · subst hk1
        have hgo3 : Hid ((l ++ [xs]) ++ learntF (rs.drop (k + 1)) = R) := by have := hgo2.out; rw [if_pos rfl] at this; simpa [Hid] using this
        obtain ⟨vs, hv1, hv2⟩ := hO.out
        have HV1 := Lib.hid (hv1.keep (below_new wr (.cells #[.slice X nx cx] 25)))
        have HV2 := Lib.hid (hv2.keep (below_new wr (.cells #[.slice X nx cx] 25)))
        have HSS := Lib.hid (sl_one wr 25 (.slice X nx cx) rfl)
        clear hv1 hv2 hgo2
        go_wp2_with (first
          | (at_builtin
             refine wpList_append_sl _ rfl (.tmp 17) (.tmp 23) _ rfl w.heap.size 25 i0 _ 24 Try.underlying22 hi0 hz0 hz1 hz2 rfl L nl cl _ rfl HV1.out (some ⟨wr.heap.size, 0, none⟩) 1 1 _ rfl HSS.out (by simp [Value.oneCell']) (by simp only [maxLen]; omega) (by omega) (by simp; omega) ?_
             intro L1 cL1 w6 hL1 hg1 hat1
             have HP6 := Lib.hid (OwnP.push HV1.out HV2.out hwsz row_ne (HXS.out.keep (below_new _ _)) (HAW.out.keep (below_next (below_next HBW.out hbl.out) (below_new _ _))) hL1 hg1)
             have HB6 := Lib.hid (below_grown (below_alloc hbl.out (.cells #[.slice X nx cx] 25)) HV1.out (Nat.le_refl _) hg1)
             clear hL1 hg1 hat1))
        go_roundw
        case rel => exact ⟨k + 1, nl + 1, cL1, L1, l ++ [xs], by omega, by omega, rfl, by go_num, HP6, hgo3, HB6⟩
        case measure => simp [intOf] <;> omega
      · have hgo3 : Hid (l ++ learntF (rs.drop (k + 1)) = R) := by have := hgo2.out; rw [if_neg hk1] at this; exact this
        have dk : (kd == 1) = false := by rw [beq_eq_false_iff_ne]; exact hk1
        clear hgo2
        go_wp2_with fail
        go_roundw
        case rel => exact ⟨k + 1, nl, cl, L, l, by omega, by omega, rfl, by go_num, hO, hgo3, hbl⟩
        case measure => simp [intOf] <;> omega
    · obtain rfl : l = R := by have := hgo.out; rw [List.drop_of_length_le (by rw [hlen.out]; omega)] at this; simpa [learntF] using this
      clear hgo
      go_wp2_with fail
      go_ret
      exact ⟨L, nl, cl, rfl, hO.out, hbl.out⟩
end Go.Proofs.Ytabjbpkojbdgaaa
