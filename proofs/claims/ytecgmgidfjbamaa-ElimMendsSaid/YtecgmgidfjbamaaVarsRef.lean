/- Contract of the reference's VarsWrong. -/
import Derived.Test.YtecgmgidfjbamaaGonePlain
import Derived.Test.YtecgmgidfjbamaaBoxes
namespace Go.Proofs.Ytecgmgidfjbamaa
open Go.RowKit
set_option linter.unusedSimpArgs false

set_option maxHeartbeats 2000000 in
set_option maxRecDepth 100000 in
theorem vars_ref (A B : Option Addr) (n c m d : Nat) (xss : List (List Int)) (vs : List Int) (vars : Int) (w : World) (h : Grid w A n c xss) (hv : I64 vars) (h' : Ints w B m d vs) (hm : m ≤ 1000000) (r1 r2 : Int) (hr : Hid (varsR vars xss vs = (r1, r2))) :
    Calls Try.prog 38 #[.agg #[.int .i64 vars, .slice A n c], .slice B m d] w (RetV (.agg #[.int .i64 r1, .int .i64 r2]) w) := by
  have hbd := h.bd
  have hbd' := h'.bd
  have hlen := Lib.hid h'.len
  have G := Lib.hid h
  have HV := Lib.hid h'
  obtain ⟨p1, p2, hp⟩ : ∃ p1 p2, Hid (besideR vars xss vs = (p1, p2)) := ⟨_, _, rfl⟩
  have hr2 : Hid ((if p1 ≠ 0 then (p1, p2) else belowF vs 0) = (r1, r2)) := by have := hr.out; rw [varsR, hp.out] at this; exact this
  clear h h' hr
  go_enter Try.func38, Try.ntmps38
  go_wp2_with fail
  refine (beside_any _ _ _ _ _ _ xss vs vars _ (G.out.keep (below_alloc (below_new _ _) _)) hv (HV.out.keep (below_alloc (below_new _ _) _)) p1 p2 hp).mono ?_
  rintro e w1 ⟨rfl, hb1⟩
  obtain ⟨K_c0, K_r0, B_w1, l_w1⟩ := two_blks hb1
  have KR := Lib.hid (K_r0.keep (below_new w1 (.cells #[.int .i64 p1, .int .i64 p2] 28)))
  have KF := Lib.hid (Blk.new w1 28 #[.int .i64 p1, .int .i64 p2])
  have HB := Lib.hid (below_alloc B_w1 (.cells #[.int .i64 p1, .int .i64 p2] 28))
  clear hb1 K_c0 K_r0 B_w1
  go_wp2_with fail
  go_loopw [6] (fun s wr => ∃ (i : Nat) (c1 c2 : Int), i ≤ m ∧ s = .int .i64 i ∧ Hid (Blk wr w1.heap.size 28 #[.int .i64 c1, .int .i64 c2]) ∧ Hid (Blk wr (w.heap.size + 1) 28 #[.int .i64 0, .int .i64 0]) ∧ Hid (Below w.heap.size w wr) ∧ Hid ((if c1 ≠ 0 then (c1, c2) else belowF (vs.drop i) i) = (r1, r2)) ∧ Hid (c1 = 0 → c2 = 0)) (fun s _ => m - (intOf s).toNat)
  case atStart => exact ⟨0, p1, p2, Nat.zero_le _, rfl, KF, KR, HB, hr2, fun e => by have := (besideR_ok (vars := vars) (xss := xss) (l := vs) (by rw [hp.out]; exact e)).1; rw [hp.out] at this; simpa using (Prod.mk.inj this).2⟩
  case round =>
    clear KF KR HB hr2
    obtain ⟨i, c1, c2, hi, rfl, KF, KR, HB, hgo, hcz⟩ := hrel
    have a0 := KF.out.cell 0
    have a1 := KF.out.cell 1
    have fa0 := KF.out.frozen 0
    have fa1 := KF.out.frozen 1
    have b0 := KR.out.cell 0
    have b1 := KR.out.cell 1
    have fb0 := KR.out.frozen 0
    have fb1 := KR.out.frozen 1
    simp at a0 a1 b0 b1
    have la := KF.out.lt
    have lb := KR.out.lt
    have hne : w1.heap.size ≠ w.heap.size + 1 := by omega
    by_cases hgon : i < m ∧ c1 = 0
    · obtain ⟨him, rfl⟩ := hgon
      obtain ⟨b, off, v, rfl, hb, hcell, u1, u2, hvk⟩ := (HV.out.keep HB.out).round him
      have hgo2 : Hid ((if v < 0 then ((3 : Int), -1 - (i : Int)) else belowF (vs.drop (i + 1)) (i + 1)) = (r1, r2)) := by have := hgo.out; rw [if_neg (by simp), drop_cons_of hvk.out, belowF] at this; exact this
      have y1 : (0 : Int) ≤ (i : Int) := by omega
      have y2 : (i : Int) < (m : Int) := by omega
      by_cases hneg : v < 0
      · have hrr : ((3 : Int), -1 - (i : Int)) = (r1, r2) := by have := hgo2.out; rw [if_pos hneg] at this; exact this
        have K2 : Hid (Blk ((wr.setCell ⟨w1.heap.size, 0, none⟩ (.int .i64 3)).setCell ⟨w1.heap.size, 1, none⟩ (.int .i64 (-1 - (i : Int)))) w1.heap.size 28 #[.int .i64 3, .int .i64 (-1 - (i : Int))]) := by have := (KF.out.set_ 0 (.int .i64 3)).set_ 1 (.int .i64 (-1 - (i : Int))); simpa [Hid] using this
        have K3 : Hid (Blk ((wr.setCell ⟨w1.heap.size, 0, none⟩ (.int .i64 3)).setCell ⟨w1.heap.size, 1, none⟩ (.int .i64 (-1 - (i : Int)))) (w.heap.size + 1) 28 #[.int .i64 0, .int .i64 0]) := (KR.out.far (p := ⟨w1.heap.size, 0, none⟩) (fun e => hne e.symm) _).far (p := ⟨w1.heap.size, 1, none⟩) (fun e => hne e.symm) _
        have B2 := Lib.hid (below_put2 HB.out (g := w1.heap.size) (by omega) (.int .i64 3) (.int .i64 (-1 - (i : Int))))
        go_wp2_with fail
        go_roundw
        case rel => exact ⟨i + 1, 3, -1 - (i : Int), by omega, by go_num, K2, K3, B2, by rw [if_pos (by decide)]; exact hrr, fun e => by simp at e⟩
        case measure => simp [intOf]; omega
      · go_wp2_with fail
        go_roundw
        case rel => exact ⟨i + 1, 0, c2, by omega, by go_num, KF, KR, HB, by have := hgo2.out; rw [if_neg hneg] at this; rw [if_neg (by simp)]; exact this, hcz⟩
        case measure => simp [intOf]; omega
    · have hrr : (c1, c2) = (r1, r2) := by
        by_cases hc : c1 = 0
        · have him : ¬ i < m := fun e => hgon ⟨e, hc⟩
          have := hgo.out
          rw [if_neg (by simpa using hc), List.drop_of_length_le (by rw [hlen.out]; omega), belowF] at this
          rw [← this, hc, hcz.out hc]
        · have := hgo.out
          rw [if_pos hc] at this
          exact this
      obtain ⟨rfl, rfl⟩ : c1 = r1 ∧ c2 = r2 := by simpa using hrr
      obtain ⟨u0, u1⟩ := KR.out.put2 (.int .i64 c1) (.int .i64 c2)
      have U0 := Lib.hid u0
      have U1 := Lib.hid u1
      have B9 := Lib.hid (below_put2 HB.out (g := w.heap.size + 1) (by omega) (.int .i64 c1) (.int .i64 c2))
      clear u0 u1 hrr
      by_cases him : i < m
      · have hc1 : (c1 == 0) = false := by simp; exact fun e => hgon ⟨him, e⟩
        clear hgon
        go_wp2_with fail
        exact bodyPost_ret (v := .agg #[.int .i64 c1, .int .i64 c2]) (by simp [results, Try.results38, go_sem, U0.out, U1.out]) rfl ⟨rfl, B9.out⟩
      · clear hgon
        go_wp2_with fail
        exact bodyPost_ret (v := .agg #[.int .i64 c1, .int .i64 c2]) (by simp [results, Try.results38, go_sem, U0.out, U1.out]) rfl ⟨rfl, B9.out⟩
end Go.Proofs.Ytecgmgidfjbamaa
