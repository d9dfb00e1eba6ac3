/- Contracts of check.checked and of the reference's StepsWrong. (Printed by wip/tools/check.py.) -/
import Derived.Test.YtabjbpkojbdgaaaStepPlain
import Derived.Test.YtabjbpkojbdgaaaSteps
import Derived.Test.YtabjbpkojbdgaaaCnfB
import Derived.Test.YtabjbpkojbdgaaaTail
namespace Go.Proofs.Ytabjbpkojbdgaaa
open Go.RowKit
set_option linter.unusedSimpArgs false

set_option maxHeartbeats 4000000 in
set_option maxRecDepth 100000 in
theorem checked_any (A B : Option Addr) (n c m d : Nat) (xss : List (List Int)) (rs : List (Int × List Int)) (vars : Int) (w : World) (h : Grid w A n c xss) (hv : I64 vars) (h' : Steps w B m d rs) (r1 r2 : Int) (hr : Hid (stepsR vars xss rs = (r1, r2))) :
    Calls Try.prog 93 #[.agg #[.int .i64 vars, .slice A n c], .slice B m d] w (RetV (.agg #[.int .i64 r1, .int .i64 r2]) w) := by
  have hbd := h.bd
  have hbd' := h'.bd
  have hlen := Lib.hid h'.len
  have G := Lib.hid h
  have V := Lib.hid h'
  obtain ⟨p1, p2, hp⟩ : ∃ p1 p2, Hid (checkC vars xss = (p1, p2)) := ⟨_, _, rfl⟩
  have hr2 : Hid ((if p1 ≠ 0 then (p1, p2) else if 3000 < m then (2, -1) else wrongF vars rs 0) = (r1, r2)) := by have := hr.out; rw [stepsR, hp.out, hlen.out] at this; exact this
  clear h h' hr
  go_enter Try.func93, Try.ntmps93
  go_wp2_with fail
  refine (check_own _ _ _ xss vars _ (G.out.keep (below_alloc (below_new _ _) _)) hv p1 p2 hp).mono ?_
  rintro e w1 ⟨rfl, hb1⟩
  obtain ⟨K_c0, K_r0, B_w1, l_w1⟩ := two_blks hb1
  have c0 := K_c0.cell 0
  have c1 := K_c0.cell 1
  have e0 := K_r0.cell 0
  have e1 := K_r0.cell 1
  have f0 := K_r0.frozen 0
  have f1 := K_r0.frozen 1
  simp at c0 c1 e0 e1
  have lc : w.heap.size < w1.heap.size := by omega
  have lr : w.heap.size + 1 < w1.heap.size := by omega
  have HB1 := Lib.hid B_w1
  have KC1 := Lib.hid K_c0
  have KR1 := Lib.hid K_r0
  clear hb1 K_c0 K_r0 B_w1
  by_cases hp1 : p1 = 0
  rotate_left
  · have d1 : (p1 != 0) = true := by simpa using hp1
    obtain ⟨rfl, rfl⟩ : p1 = r1 ∧ p2 = r2 := by have := hr2.out; rw [if_pos hp1] at this; simpa using this
    go_wp2_with fail
    refine bodyPost_ret (v := .agg #[.int .i64 p1, .int .i64 p2]) (by simp [results, Try.results93, go_sem, e0, e1, lr]) rfl ⟨rfl, ?_⟩
    exact (below_put2 HB1.out (g := w.heap.size + 1) (by omega) _ _).alloc (by simp; omega) _
  · subst hp1
    obtain ⟨_, v0, v1, _, _⟩ := checkC_ok (vars := vars) (xss := xss) (by rw [hp.out])
    have hr3 : Hid ((if 3000 < m then ((2 : Int), (-1 : Int)) else wrongF vars rs 0) = (r1, r2)) := by have := hr2.out; rw [if_neg (by simp)] at this; exact this
    clear hr2
    by_cases hm3 : 3000 < m
    · have d2 : decide ((3000 : Int) < (m : Int)) = true := by simp; omega
      obtain ⟨rfl, rfl⟩ : 2 = r1 ∧ -1 = r2 := by have := hr3.out; rw [if_pos hm3] at this; simpa using this
      go_wp2_with fail
      refine bodyPost_ret (v := .agg #[.int .i64 2, .int .i64 (-1)]) (by simp [results, Try.results93, go_sem, e0, e1, lr]) rfl ⟨rfl, ?_⟩
      exact (below_put2 HB1.out (g := w.heap.size + 1) (by omega) _ _).alloc (by simp; omega) _
    have d2 : decide ((3000 : Int) < (m : Int)) = false := by simp; omega
    have hr4 : Hid (wrongF vars rs 0 = (r1, r2)) := by have := hr3.out; rw [if_neg hm3] at this; exact this
    have hm4 : m ≤ 3000 := by omega
    clear hr3 hm3
    obtain ⟨w0, hw0⟩ : ∃ w0 : World, w0 = w1.alloc (.cells #[.int .i64 0, .int .i64 p2] 28) := ⟨_, rfl⟩
    have hbx : Below w1.heap.size w1 w0 := by rw [hw0]; exact below_new _ _
    have HB := Lib.hid (below_next HB1.out hbx)
    have KC := Lib.hid (KC1.out.keep hbx)
    have KR := Lib.hid (KR1.out.keep hbx)
    have HW0 := Lib.hid hw0
    clear hw0 hbx
    go_wp2_with fail
    rw [← HW0.out]
    clear HW0 c0 c1 e0 e1 f0 f1 lc lr
    go_loopw [22] (fun s wr => ∃ k : Nat, k ≤ m ∧ s = .int .i64 k ∧ Hid (wrongF vars (rs.drop k) k = (r1, r2)) ∧ Hid (Below w0.heap.size w0 wr)) (fun s _ => m - (intOf s).toNat)
    case atStart => exact ⟨0, Nat.zero_le _, rfl, hr4, Below.refl _ _⟩
    case round =>
      obtain ⟨k, hk, rfl, hgo, hbl⟩ := hrel
      have KCw := Lib.hid (KC.out.keep hbl.out)
      have KRw := Lib.hid (KR.out.keep hbl.out)
      have c0 := KCw.out.cell 0
      have e0 := KRw.out.cell 0
      have e1 := KRw.out.cell 1
      have f0 := KRw.out.frozen 0
      have f1 := KRw.out.frozen 1
      simp at c0 e0 e1
      have lc := KCw.out.lt
      have lr := KRw.out.lt
      by_cases hlt : k < m
      · obtain ⟨b, off, kd, X, nx, cx, xs, X2, n2, c2, i3, i4, i5, X6, n6, c6, i7, i8, hBe, hb, s0, s1, s2, s3, s4, s5, s6, s7, s8, hkd, hxs, hrk⟩ := (V.out.keep (below_next HB.out hbl.out)).round hlt
        subst hBe
        unfold I64 at hkd
        obtain ⟨q1, q2, hq⟩ : ∃ q1 q2, Hid (badF vars [] xs = (q1, q2)) := ⟨_, _, rfl⟩
        have hgo2 : Hid ((if kd ≠ 1 ∧ kd ≠ 2 then ((4 : Int), (k : Int)) else if q2 ≠ 0 then (q2, (k : Int)) else wrongF vars (rs.drop (k + 1)) (k + 1)) = (r1, r2)) := by have := hgo.out; rw [drop_cons_of hrk.out, wrongF, hq.out] at this; exact this
        have y1 : (0 : Int) ≤ (k : Int) := by omega
        have y2 : (k : Int) < (m : Int) := by omega
        have HXS := Lib.hid (hxs.keep (below_new wr (.cells #[.int .i64 kd, .slice X nx cx, .slice X2 n2 c2, .int .i64 i3, .int .i64 i4, .int .i64 i5, .slice X6 n6 c6, .int .i64 i7, .int .i64 i8] 102)))
        clear hxs hgo
        by_cases hkk : kd ≠ 1 ∧ kd ≠ 2
        · obtain ⟨h1, h2⟩ := hkk
          obtain ⟨rfl, rfl⟩ : 4 = r1 ∧ (k : Int) = r2 := by have := hgo2.out; rw [if_pos ⟨h1, h2⟩] at this; simpa using this
          have d4 : (kd != 1) = true := by simpa using h1
          have d5 : (kd != 2) = true := by simpa using h2
          have HBF := Lib.hid (below_next HB.out hbl.out)
          go_wp2_with fail
          refine bodyPost_ret (v := .agg #[.int .i64 4, .int .i64 k]) (by simp [results, Try.results93, go_sem, e0, e1, lr]) rfl ⟨rfl, ?_⟩
          exact (below_put2 HBF.out (g := w.heap.size + 1) (by omega) _ _).alloc (by simp; have := HBF.out.size; omega) _
        · have hgo3 : Hid ((if q2 ≠ 0 then (q2, (k : Int)) else wrongF vars (rs.drop (k + 1)) (k + 1)) = (r1, r2)) := by have := hgo2.out; rw [if_neg hkk] at this; exact this
          have hk12 : kd = 1 ∨ kd = 2 := by omega
          clear hkk hgo2
          rcases hk12 with rfl | rfl
          · go_wp2_with fail
            refine (bad_any _ _ _ xs vars _ HXS.out v0 (by omega) q1 q2 hq).mono ?_
            rintro e w3 ⟨rfl, hb3⟩
            have HB3 := Lib.hid (below_next (below_new wr (.cells #[.int .i64 1, .slice X nx cx, .slice X2 n2 c2, .int .i64 i3, .int .i64 i4, .int .i64 i5, .slice X6 n6 c6, .int .i64 i7, .int .i64 i8] 102)) hb3)
            have KR3 := Lib.hid (KRw.out.keep HB3.out)
            clear hb3 e0 e1 f0 f1 lr c0 lc
            have e0 := KR3.out.cell 0
            have e1 := KR3.out.cell 1
            have f0 := KR3.out.frozen 0
            have f1 := KR3.out.frozen 1
            simp at e0 e1
            have lr := KR3.out.lt
            by_cases hq2 : q2 = 0
            · subst hq2
              have hgo4 : Hid (wrongF vars (rs.drop (k + 1)) (k + 1) = (r1, r2)) := by have := hgo3.out; rw [if_neg (by simp)] at this; exact this
              go_wp2_with fail
              go_roundw
              case rel => exact ⟨k + 1, by omega, by go_num, hgo4, below_next hbl.out HB3.out⟩
              case measure => simp [intOf]; omega
            · have d6 : (q2 != 0) = true := by simpa using hq2
              obtain ⟨rfl, rfl⟩ : q2 = r1 ∧ (k : Int) = r2 := by have := hgo3.out; rw [if_pos hq2] at this; simpa using this
              have HBF := Lib.hid (below_next (below_next HB.out hbl.out) HB3.out)
              go_wp2_with fail
              refine bodyPost_ret (v := .agg #[.int .i64 q2, .int .i64 k]) (by simp [results, Try.results93, go_sem, e0, e1, lr]) rfl ⟨rfl, ?_⟩
              exact below_put2 HBF.out (g := w.heap.size + 1) (by omega) _ _
          · go_wp2_with fail
            refine (bad_any _ _ _ xs vars _ HXS.out v0 (by omega) q1 q2 hq).mono ?_
            rintro e w3 ⟨rfl, hb3⟩
            have HB3 := Lib.hid (below_next (below_new wr (.cells #[.int .i64 2, .slice X nx cx, .slice X2 n2 c2, .int .i64 i3, .int .i64 i4, .int .i64 i5, .slice X6 n6 c6, .int .i64 i7, .int .i64 i8] 102)) hb3)
            have KR3 := Lib.hid (KRw.out.keep HB3.out)
            clear hb3 e0 e1 f0 f1 lr c0 lc
            have e0 := KR3.out.cell 0
            have e1 := KR3.out.cell 1
            have f0 := KR3.out.frozen 0
            have f1 := KR3.out.frozen 1
            simp at e0 e1
            have lr := KR3.out.lt
            by_cases hq2 : q2 = 0
            · subst hq2
              have hgo4 : Hid (wrongF vars (rs.drop (k + 1)) (k + 1) = (r1, r2)) := by have := hgo3.out; rw [if_neg (by simp)] at this; exact this
              go_wp2_with fail
              go_roundw
              case rel => exact ⟨k + 1, by omega, by go_num, hgo4, below_next hbl.out HB3.out⟩
              case measure => simp [intOf]; omega
            · have d6 : (q2 != 0) = true := by simpa using hq2
              obtain ⟨rfl, rfl⟩ : q2 = r1 ∧ (k : Int) = r2 := by have := hgo3.out; rw [if_pos hq2] at this; simpa using this
              have HBF := Lib.hid (below_next (below_next HB.out hbl.out) HB3.out)
              go_wp2_with fail
              refine bodyPost_ret (v := .agg #[.int .i64 q2, .int .i64 k]) (by simp [results, Try.results93, go_sem, e0, e1, lr]) rfl ⟨rfl, ?_⟩
              exact below_put2 HBF.out (g := w.heap.size + 1) (by omega) _ _
      · obtain rfl : k = m := by omega
        obtain ⟨rfl, rfl⟩ : 0 = r1 ∧ 0 = r2 := by have := hgo.out; rw [List.drop_of_length_le (by rw [hlen.out]; omega), wrongF] at this; simpa using this
        have SI : Hid ((wr.setCell ⟨w.heap.size + 1, 0, none⟩ (.int .i64 0)).setCell ⟨w.heap.size + 1, 1, none⟩ (.int .i64 0) = wr) := by rw [setCell_id KRw.out rfl, setCell_id KRw.out rfl]; rfl
        go_wp2_with fail
        exact bodyPost_ret (v := .agg #[.int .i64 0, .int .i64 0]) (by rw [SI.out]; simp [results, Try.results93, go_sem, e0, e1]) rfl ⟨rfl, by rw [SI.out]; exact below_next HB.out hbl.out⟩
end Go.Proofs.Ytabjbpkojbdgaaa
