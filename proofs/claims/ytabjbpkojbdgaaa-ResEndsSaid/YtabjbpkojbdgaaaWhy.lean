/- Contracts of check.Why and check.Take. (Printed by wip/tools/check.py.) -/
import Derived.Test.YtabjbpkojbdgaaaStepChk
import Derived.Test.YtabjbpkojbdgaaaWhyFn
import Derived.Test.YtabjbpkojbdgaaaDeleteL
import Derived.Test.YtabjbpkojbdgaaaUnitRun
namespace Go.Proofs.Ytabjbpkojbdgaaa
open Go.RowKit
set_option linter.unusedSimpArgs false

/-- What check.Why tells. -/
def whyS (vars : Int) (xss : List (List Int)) (rs : List (Int × List Int)) : Int × Int × Int := if (stepsR vars xss rs).1 ≠ 0 then (0, stepsR vars xss rs) else (whyF vars rs.length xss rs 0, 0, 0)

set_option maxHeartbeats 8000000 in
set_option maxRecDepth 100000 in
theorem why_any (A B : Option Addr) (n c m d : Nat) (xss : List (List Int)) (rs : List (Int × List Int)) (vars : Int) (w : World) (h : Grid w A n c xss) (hv : I64 vars) (h' : Steps w B m d rs) (z r1 r2 : Int) (hz : Hid (whyS vars xss rs = (z, r1, r2))) :
    Calls Try.prog 63 #[.agg #[.int .i64 vars, .slice A n c], .slice B m d] w (RetV (.tuple #[.int .i64 z, .agg #[.int .i64 r1, .int .i64 r2]]) w) := by
  have hbd := h.bd
  have hbd' := h'.bd
  have hlen := Lib.hid h'.len
  have hlx := Lib.hid h.len
  have G := Lib.hid h
  have V := Lib.hid h'
  obtain ⟨i0, hi0, hz0, hz1, hz2⟩ := info_parts row_info
  obtain ⟨vs0, hvs0, hrp0⟩ := h.rowsP 3 (Nat.le_refl _)
  have HVS0 := Lib.hid hvs0
  have HRP0 := Lib.hid hrp0
  obtain ⟨q1, q2, hq⟩ : ∃ q1 q2, Hid (stepsR vars xss rs = (q1, q2)) := ⟨_, _, rfl⟩
  have hz' : Hid ((if q1 ≠ 0 then ((0 : Int), q1, q2) else (whyF vars m xss rs 0, 0, 0)) = (z, r1, r2)) := by have := hz.out; rw [whyS, hq.out, hlen.out] at this; exact this
  clear h h' hz hvs0 hrp0
  go_enter Try.func63, Try.ntmps63
  go_wp2_with fail
  refine (checked_any _ _ _ _ _ _ xss rs vars _ (G.out.keep (below_alloc (below_new _ _) _)) hv (V.out.keep (below_alloc (below_new _ _) _)) q1 q2 hq).mono ?_
  rintro e w1 ⟨rfl, hb1⟩
  obtain ⟨K_c0, K_r0, B_w1, l_w1⟩ := two_blks hb1
  have c0 := K_c0.cell 0
  have c1 := K_c0.cell 1
  have e0 := K_r0.cell 0
  have e1 := K_r0.cell 1
  have f0 := K_r0.frozen 0
  have f1 := K_r0.frozen 1
  simp at c0 c1 e0 e1
  have lc : w.heap.size < w1.heap.size := by omega
  have lr : w.heap.size + 1 < w1.heap.size := by omega
  have HB1 := Lib.hid B_w1
  have KR1 := Lib.hid K_r0
  clear hb1 K_c0 K_r0 B_w1
  by_cases hq1 : q1 = 0
  rotate_left
  · have d1 : (q1 != 0) = true := by simpa using hq1
    obtain ⟨rfl, rfl, rfl⟩ : 0 = z ∧ q1 = r1 ∧ q2 = r2 := by have := hz'.out; rw [if_pos hq1] at this; simpa using this
    go_wp2_with fail
    go_region
    go_wp2_with fail
    refine bodyPost_ret (v := .tuple #[.int .i64 0, .agg #[.int .i64 q1, .int .i64 q2]]) (by simp [results, Try.results63, go_sem, e0, e1, lr]) rfl ⟨rfl, ?_⟩
    exact ((below_put2 HB1.out (g := w.heap.size + 1) (by omega) _ _).alloc (by simp; omega) _).drew
  · subst hq1
    obtain ⟨hz0', hck, hm3, hrs⟩ := stepsR_ok (vars := vars) (xss := xss) (rs := rs) (by rw [hq.out])
    rw [hlen.out] at hm3
    obtain ⟨_, v0, v1, hn400, hrows⟩ := checkC_ok hck
    obtain ⟨hzz, rfl, rfl⟩ : whyF vars m xss rs 0 = z ∧ 0 = r1 ∧ 0 = r2 := by have := hz'.out; rw [if_neg (by simp)] at this; simpa using this
    have HZZ := Lib.hid hzz
    have hn4 : n ≤ 400 := by have := hlx.out; omega
    have HRS := Lib.hid hrs
    have HL0 : Hid (∀ x ∈ xss, Lits vars x) := fun x hx => (hrows x hx).2
    clear hz' hz0' hrs hrows hn400 hzz
    obtain ⟨wa, hwa⟩ : ∃ wa : World, wa = w1.alloc (.cells #[.int .i64 0, .int .i64 q2] 28) := ⟨_, rfl⟩
    have hbx : Below w1.heap.size w1 wa := by rw [hwa]; exact below_new _ _
    have HB := Lib.hid (below_next HB1.out hbx)
    have KR := Lib.hid (KR1.out.keep hbx)
    have HWA := Lib.hid hwa
    clear hwa hbx
    go_wp2_with fail
    rw [← HWA.out]
    have hwsz := HB.out.size
    refine (clone_rows A n c w.heap.size xss wa vs0 (HVS0.out.keep HB.out) (HRP0.out.keep HB.out) (by omega) hwsz).mono ?_
    rintro e w2 ⟨L0, n0, cl0, rfl, hO0, hb2⟩
    have hl0 := hO0.len
    rw [hlx.out] at hl0
    subst hl0
    have O0 := Lib.hid hO0
    have B2 := Lib.hid hb2
    clear HWA c0 c1 e0 e1 f0 f1 lc lr hO0 hb2
    go_wp2_with fail
    go_loopw [7, 24] (fun s7 s wr => ∃ (k nl cl : Nat) (L : Option Addr) (l : List (List Int)), k ≤ m ∧ s7 = .slice L nl cl ∧ s = .int .i64 k ∧ nl ≤ 400 + k ∧ Hid (OwnP 25 3 wr wa.heap.size w.heap.size L nl cl l) ∧ Hid (whyF vars m l (rs.drop k) k = z) ∧ Hid (∀ x ∈ l, Lits vars x) ∧ Hid (Below wa.heap.size wa wr)) (fun _ s _ => m - (intOf s).toNat)
    case atStart => exact ⟨0, n, cl0, L0, xss, Nat.zero_le _, rfl, rfl, by omega, O0, HZZ, HL0, B2⟩
    case round =>
      clear O0 B2 HZZ HL0
      obtain ⟨k, nl, cl, L, l, hk, rfl, rfl, hnl, hO, hgo, hll, hbl⟩ := hrel
      obtain ⟨hlnl, hlc, hlc2⟩ := hO.out.len'
      have HLN := Lib.hid hlnl
      have hwr := hbl.out.size
      have hgr := hO.out.grid
      have HG := Lib.hid hgr
      have KRw := Lib.hid (KR.out.keep hbl.out)
      clear hlnl hgr
      by_cases hlt : k < m
      · obtain ⟨b, off, kd, X, nx, cx, xs, X2, n2, c2, i3, i4, i5, X6, n6, c6, i7, i8, hBe, hb, s0, s1, s2, s3, s4, s5, s6, s7, s8, hkd, hxs, hrk⟩ := (V.out.keep (below_next HB.out hbl.out)).round hlt
        subst hBe
        have hAw : Away 3 w w.heap.size X nx := by
          obtain ⟨bb, oo, eB, hltb, hcc⟩ := V.out.at_ (by omega)
          cases eB
          obtain ⟨X', nx', cx', Xa, na, ca, j3, j4, j5, Xb, nb, cb, j7, j8, t0, t1, _, _, _, _, _, _, _, hI⟩ := hcc k _ hrk.out
          have e2 := keepBox (below_next HB.out hbl.out) t1
          rw [s1] at e2
          cases e2
          exact Away.old hI (Nat.le_refl _)
        have HAW := Lib.hid hAw
        obtain ⟨hkk, hxl⟩ := HRS.out (kd, xs) (List.mem_of_getElem? hrk.out)
        have HXL := Lib.hid hxl
        have hnx : nx ≤ 120 := by have h1 := hxl.len_le v0; have h2 := hxs.len; simp at h1; omega
        have y1 : (0 : Int) ≤ (k : Int) := by omega
        have y2 : (k : Int) < (m : Int) := by omega
        have hbs := below_new wr (.cells #[.int .i64 kd, .slice X nx cx, .slice X2 n2 c2, .int .i64 i3, .int .i64 i4, .int .i64 i5, .slice X6 n6 c6, .int .i64 i7, .int .i64 i8] 102)
        have HXS := Lib.hid (hxs.keep hbs)
        have HBS := Lib.hid hbs
        have OS := Lib.hid (hO.out.keep hbs)
        have KS := Lib.hid (Blk.new wr 102 #[.int .i64 kd, .slice X nx cx, .slice X2 n2 c2, .int .i64 i3, .int .i64 i4, .int .i64 i5, .slice X6 n6 c6, .int .i64 i7, .int .i64 i8])
        have hgo2 : Hid ((if kd = 1 then (if fallsF vars l xs then whyF vars m (l ++ [xs]) (rs.drop (k + 1)) (k + 1) else (k : Int)) else (if idxF (likeB xs) l 0 < 0 then (k : Int) else whyF vars m (l.eraseIdx (idxF (likeB xs) l 0).toNat) (rs.drop (k + 1)) (k + 1))) = z) := by have := hgo.out; rw [drop_cons_of hrk.out, whyF] at this; exact this
        clear hxs hgo hxl hbs hAw
        have hk12 : kd = 1 ∨ kd = 2 := hkk
        clear hkk
        rcases hk12 with rfl | rfl
        · obtain ⟨q, hfq⟩ : ∃ q, Hid (fallsF vars l xs = q) := ⟨_, rfl⟩
          have hgo3 : Hid ((if q then whyF vars m (l ++ [xs]) (rs.drop (k + 1)) (k + 1) else (k : Int)) = z) := by have := hgo2.out; rw [if_pos rfl, hfq.out] at this; exact this
          clear hgo2
          go_wp2_with fail
          refine (falls_any _ _ _ _ _ _ l xs vars _ OS.out.grid HXS.out v0 (by omega) hll.out HXL.out q hfq).mono ?_
          rintro e w3 ⟨rfl, hb3⟩
          have KS3 := Lib.hid (KS.out.keep hb3)
          have HB3 := Lib.hid (below_next HBS.out hb3)
          have O3 := Lib.hid (OS.out.keep hb3)
          have X3 := Lib.hid (HXS.out.keep hb3)
          have KR3 := Lib.hid (KRw.out.keep HB3.out)
          have hw3 := HB3.out.size
          clear hb3 s0 s1 s2 s3 s4 s5 s6 s7 s8 hb
          have k1 := KS3.out.cell 1
          simp at k1
          have lk := KS3.out.lt
          cases q
          · obtain rfl : (k : Int) = z := by have := hgo3.out; simpa using this
            have e0 := KR3.out.cell 0
            have e1 := KR3.out.cell 1
            have f0 := KR3.out.frozen 0
            have f1 := KR3.out.frozen 1
            simp at e0 e1
            have lr := KR3.out.lt
            have SI : Hid ((w3.setCell ⟨w.heap.size + 1, 0, none⟩ (.int .i64 0)).setCell ⟨w.heap.size + 1, 1, none⟩ (.int .i64 0) = w3) := by rw [setCell_id KR3.out rfl, setCell_id KR3.out rfl]; rfl
            have BF := Lib.hid (below_next (below_next HB.out hbl.out) HB3.out)
            go_wp2_with fail
            exact bodyPost_ret (v := .tuple #[.int .i64 k, .agg #[.int .i64 0, .int .i64 0]]) (by rw [SI.out]; simp [results, Try.results63, go_sem, e0, e1]) rfl ⟨rfl, by rw [SI.out]; exact BF.out⟩
          · have hgo4 : Hid (whyF vars m (l ++ [xs]) (rs.drop (k + 1)) (k + 1) = z) := by have := hgo3.out; simpa [Hid] using this
            obtain ⟨vs, hv1, hv2⟩ := O3.out
            have HV1 := Lib.hid (hv1.keep (below_new w3 (.cells #[.slice X nx cx] 25)))
            have HV2 := Lib.hid (hv2.keep (below_new w3 (.cells #[.slice X nx cx] 25)))
            have hSS := sl_one w3 25 (.slice X nx cx) rfl
            clear hv1 hv2
            go_wp2_with (first
              | (at_builtin
                 refine wpList_append_sl _ rfl (.tmp 39) (.tmp 42) _ rfl wa.heap.size 25 i0 _ 24 Try.underlying22 hi0 hz0 hz1 hz2 rfl L nl cl _ rfl HV1.out (some ⟨w3.heap.size, 0, none⟩) 1 1 _ rfl hSS (by simp [Value.oneCell']) (by simp only [maxLen]; omega) (by omega) (by simp; omega) ?_
                 intro L1 cL1 w6 hL1 hg1 hat1
                 have HP6 := Lib.hid (OwnP.push HV1.out HV2.out hwsz row_ne (X3.out.keep (below_new _ _)) (HAW.out.keep (below_next (below_next HB.out hbl.out) (below_next HB3.out (below_new _ _)))) hL1 hg1)
                 have HB6 := Lib.hid (below_grown (below_alloc (below_next hbl.out HB3.out) (.cells #[.slice X nx cx] 25)) HV1.out (Nat.le_refl _) hg1)
                 clear hL1 hg1 hat1))
            go_roundw
            case rel => exact ⟨k + 1, nl + 1, cL1, L1, l ++ [xs], by omega, rfl, by go_num, by omega, HP6, hgo4, snoc_lits hll.out HXL.out, HB6⟩
            case measure => simp [intOf]; omega
        · obtain ⟨r, hr⟩ : ∃ r, Hid (idxF (likeB xs) l 0 = r) := ⟨_, rfl⟩
          have hgo3 : Hid ((if r < 0 then (k : Int) else whyF vars m (l.eraseIdx r.toNat) (rs.drop (k + 1)) (k + 1)) = z) := by have := hgo2.out; rw [if_neg (by decide), hr.out] at this; exact this
          have HXB : Hid (∀ x ∈ xs, -1000000 ≤ x ∧ x ≤ 1000000) := fun x hx => by have := HXL.out.1 x hx; omega
          clear hgo2
          go_wp2_with fail
          refine (sorted_any _ _ _ xs _ HXS.out HXB.out (by omega)).mono ?_
          rintro e w3 ⟨S3, ns3, cs3, rfl, hO3, hb3⟩
          have I3 := Lib.hid (hO3.ints (fun q hq => (by have := HXB.out q (sortF_mem.1 hq); unfold I64; omega)))
          obtain ⟨w4, hw4⟩ : ∃ w4 : World, w4 = w3.alloc (.cells #[.slice S3 ns3 cs3] 25) := ⟨_, rfl⟩
          have hb4 : Below w3.heap.size w3 w4 := by rw [hw4]; exact below_new _ _
          have cb : w4.cell? ⟨w3.heap.size, 0, none⟩ = some (.slice S3 ns3 cs3) := by rw [hw4]; simp [go_sem]
          have HB4 := Lib.hid (below_next HBS.out (below_next hb3 hb4))
          have O4 := Lib.hid (OS.out.keep (below_next hb3 hb4))
          have I4 := Lib.hid (I3.out.keep hb4)
          have CB := Lib.hid cb
          have HW4 := Lib.hid hw4
          have hgr4 := O4.out.grid
          have HP : Hid (PredR 94 #[.pointer (some ⟨w3.heap.size, 0, none⟩)] l (likeB xs) w4) := by
            intro V' Y ny cy y hV hy hm
            have hly := hll.out y hm
            have h1 := hly.len_le v0
            have h2 := hy.len
            exact why1_any Y S3 ny cy ns3 cs3 w3.heap.size xs y V' (keepBox hV CB.out) (I4.out.keep hV) hy (fun x hx => by have := hly.1 x hx; omega) (by omega)
          clear hO3 hb3 hw4 hb4 cb s0 s1 s2 s3 s4 s5 s6 s7 s8 hb hgr4
          go_wp2_with fail
          rw [← HW4.out]
          refine (indexFunc_rows _ _ _ l _ O4.out.grid _ _ enters_why1 _ HP.out r hr).mono ?_
          rintro e w5 ⟨rfl, hb5⟩
          have O5 := Lib.hid (O4.out.keep hb5)
          have HB5 := Lib.hid (below_next HB4.out hb5)
          have hw5 := HB5.out.size
          clear hb5 HP HW4
          by_cases hr0 : r < 0
          · obtain rfl : (k : Int) = z := by have := hgo3.out; rw [if_pos hr0] at this; exact this
            have KR5 := Lib.hid (KRw.out.keep HB5.out)
            have e0 := KR5.out.cell 0
            have e1 := KR5.out.cell 1
            have f0 := KR5.out.frozen 0
            have f1 := KR5.out.frozen 1
            simp at e0 e1
            have lr := KR5.out.lt
            have SI : Hid ((w5.setCell ⟨w.heap.size + 1, 0, none⟩ (.int .i64 0)).setCell ⟨w.heap.size + 1, 1, none⟩ (.int .i64 0) = w5) := by rw [setCell_id KR5.out rfl, setCell_id KR5.out rfl]; rfl
            have BF := Lib.hid (below_next (below_next HB.out hbl.out) HB5.out)
            go_wp2_with fail
            exact bodyPost_ret (v := .tuple #[.int .i64 k, .agg #[.int .i64 0, .int .i64 0]]) (by rw [SI.out]; simp [results, Try.results63, go_sem, e0, e1]) rfl ⟨rfl, by rw [SI.out]; exact BF.out⟩
          · have hrl : r < nl := by
              rcases idxF_lt (likeB xs) l 0 with h1 | ⟨_, h2, _⟩
              · rw [hr.out] at h1; omega
              · rw [hr.out, HLN.out] at h2; simpa using h2
            obtain ⟨j, rfl⟩ : ∃ j : Nat, r = j := ⟨r.toNat, by omega⟩
            have hj : j < nl := by omega
            obtain ⟨g, _, _, _, _, hLe, hg0, _⟩ := O5.out.round hj
            subst hLe
            have hgo4 : Hid (whyF vars m (l.eraseIdx j) (rs.drop (k + 1)) (k + 1) = z) := by have := hgo3.out; rw [if_neg hr0] at this; simpa [Hid] using this
            go_wp2_with fail
            have ek : (j : Int) + 1 = ((j + 1 : Nat) : Int) := by omega
            rw [ek]
            refine (delete_rowsL wa.heap.size w.heap.size g nl cl cl j l w5 hwsz O5.out (by omega) hlc (Nat.le_refl _) hj).mono ?_
            rintro e w6 ⟨rfl, hO6, hg6⟩
            have O6 := Lib.hid hO6
            have B6 : Hid (Below wa.heap.size wa w6) := (below_next hbl.out HB5.out).grown hg6 (by omega) (fun k' hk' => by cases hk'; exact hg0)
            clear hO6 hg6 ek
            go_wp2_with fail
            go_roundw
            case rel => exact ⟨k + 1, nl - 1, cl, some ⟨g, 0, none⟩, l.eraseIdx j, by omega, rfl, by go_num, by omega, O6, hgo4, eraseIdx_lits hll.out j, B6⟩
            case measure => simp [intOf]; omega
      · obtain rfl : k = m := by omega
        obtain ⟨q, hqq⟩ : ∃ q, Hid (l.any (fun x => x.isEmpty) = q) := ⟨_, rfl⟩
        have hgo2 : Hid ((if q then (-1 : Int) else (k : Int)) = z) := by have := hgo.out; rw [List.drop_of_length_le (by rw [hlen.out]; omega), whyF, hqq.out] at this; exact this
        have HP : Hid (PredR 98 #[] l (fun x => x.isEmpty) wr) := by
          intro V' Y ny cy y hV hy hm
          exact why2_any Y ny cy y V' hy
        clear hgo
        go_wp2_with fail
        refine (containsFunc_rows _ _ _ l _ HG.out _ _ enters_why2 _ HP.out q hqq).mono ?_
        rintro e w5 ⟨rfl, hb5⟩
        have HB5 := Lib.hid hb5
        have KR5 := Lib.hid (KRw.out.keep hb5)
        have e0 := KR5.out.cell 0
        have e1 := KR5.out.cell 1
        have f0 := KR5.out.frozen 0
        have f1 := KR5.out.frozen 1
        simp at e0 e1
        have lr := KR5.out.lt
        have SI : Hid ((w5.setCell ⟨w.heap.size + 1, 0, none⟩ (.int .i64 0)).setCell ⟨w.heap.size + 1, 1, none⟩ (.int .i64 0) = w5) := by rw [setCell_id KR5.out rfl, setCell_id KR5.out rfl]; rfl
        have BF := Lib.hid (below_next (below_next HB.out hbl.out) HB5.out)
        clear hb5 HP
        cases q
        · obtain rfl : (k : Int) = z := by have := hgo2.out; simpa using this
          go_wp2_with fail
          exact bodyPost_ret (v := .tuple #[.int .i64 k, .agg #[.int .i64 0, .int .i64 0]]) (by rw [SI.out]; simp [results, Try.results63, go_sem, e0, e1]) rfl ⟨rfl, by rw [SI.out]; exact BF.out⟩
        · obtain rfl : -1 = z := by have := hgo2.out; simpa using this
          go_wp2_with fail
          exact bodyPost_ret (v := .tuple #[.int .i64 (-1), .agg #[.int .i64 0, .int .i64 0]]) (by rw [SI.out]; simp [results, Try.results63, go_sem, e0, e1]) rfl ⟨rfl, by rw [SI.out]; exact BF.out⟩

set_option maxHeartbeats 1000000 in
theorem take_any (A B : Option Addr) (n c m d : Nat) (xss : List (List Int)) (rs : List (Int × List Int)) (vars : Int) (w : World) (h : Grid w A n c xss) (hv : I64 vars) (h' : Steps w B m d rs) (z r1 r2 : Int) (hz : Hid (whyS vars xss rs = (z, r1, r2))) (q : Bool) (hq : Hid ((decide (r1 = 0) && decide (z = -1)) = q)) :
    Calls Try.prog 39 #[.agg #[.int .i64 vars, .slice A n c], .slice B m d] w (RetV (.tuple #[.bool q, .agg #[.int .i64 r1, .int .i64 r2]]) w) := by
  have hbd := h.bd
  have hbd' := h'.bd
  have G := Lib.hid h
  have V := Lib.hid h'
  clear h h'
  go_enter Try.func39, Try.ntmps39
  go_wp2_with fail
  refine (why_any _ _ _ _ _ _ xss rs vars _ (G.out.keep (below_alloc (below_new _ _) _)) hv (V.out.keep (below_alloc (below_new _ _) _)) z r1 r2 hz).mono ?_
  rintro e w1 ⟨rfl, hb1⟩
  obtain ⟨K_c0, K_r0, B_w1, l_w1⟩ := two_blks hb1
  have e0 := K_r0.cell 0
  have e1 := K_r0.cell 1
  have f0 := K_r0.frozen 0
  have f1 := K_r0.frozen 1
  simp at e0 e1
  have lr : w.heap.size + 1 < w1.heap.size := by omega
  have HB1 := Lib.hid B_w1
  clear hb1 K_c0 K_r0 B_w1
  by_cases hr1 : r1 = 0
  · subst hr1
    obtain rfl : r2 = 0 := by
      have := hz.out
      rw [whyS] at this
      by_cases h1 : (stepsR vars xss rs).1 ≠ 0
      · rw [if_pos h1] at this; exfalso; apply h1; rw [(Prod.mk.inj this).2]
      · rw [if_neg h1] at this; simpa using (Prod.mk.inj (Prod.mk.inj this).2).2.symm
    obtain rfl : (z == -1) = q := by rw [← hq.out]; by_cases h : z = -1 <;> simp [h]
    go_wp2_with fail
    refine bodyPost_ret (v := .tuple #[.bool (z == -1), .agg #[.int .i64 0, .int .i64 0]]) (by simp [results, Try.results39, go_sem, e0, e1, lr]) rfl ⟨rfl, ?_⟩
    exact (below_put2 HB1.out (g := w.heap.size + 1) (by omega) _ _).alloc (by simp; omega) _
  · have d1 : (r1 != 0) = true := by simpa using hr1
    obtain rfl : false = q := by rw [← hq.out]; simp [hr1]
    go_wp2_with fail
    go_region
    go_wp2_with fail
    refine bodyPost_ret (v := .tuple #[.bool false, .agg #[.int .i64 r1, .int .i64 r2]]) (by simp [results, Try.results39, go_sem, e0, e1, lr]) rfl ⟨rfl, ?_⟩
    exact ((below_put2 HB1.out (g := w.heap.size + 1) (by omega) _ _).alloc (by simp; omega) _).drew
end Go.Proofs.Ytabjbpkojbdgaaa
