/- Contract of res.Check. (Printed by wip/tools/rescheck.py.) -/
import Derived.Test.YtecgmgidfjbamaaResolve
import Derived.Test.YtecgmgidfjbamaaCloneR
import Derived.Test.YtecgmgidfjbamaaCnfB
import Derived.Test.YtecgmgidfjbamaaTrips
namespace Go.Proofs.Ytecgmgidfjbamaa
open Go.RowKit
set_option linter.unusedSimpArgs false

/-- The clause of each resolution, or what is wrong (a code, a place). -/
def resC (vars : Int) (xss : List (List Int)) (rs : List R3) : List (List Int) × Int × Int :=
  if 2000 < rs.length then ([], 2, -1) else ((ressF vars rs xss 0).1.drop xss.length, (ressF vars rs xss 0).2)
/-- Clauses, and a fault. -/
def RetRowsF (l : List (List Int)) (r1 r2 : Int) (w : World) (e : Ending) (w' : World) : Prop :=
  ∃ A n c, e = .returned (.tuple #[.slice A n c, .agg #[.int .i64 r1, .int .i64 r2]]) ∧ Grid w' A n c l ∧ Below w.heap.size w w'
theorem grid_nil (w : World) : Grid w none 0 0 [] := ⟨[], ⟨rfl, Nat.le_refl _, Nat.zero_le _, fun h => by omega⟩, rfl, by simp⟩

set_option maxHeartbeats 1000000 in
theorem res_check_wrong (A B : Option Addr) (n c m d : Nat) (xss : List (List Int)) (vars : Int) (w : World) (h : Grid w A n c xss) (hv : I64 vars) (r1 r2 : Int) (hr : Hid (checkC vars xss = (r1, r2))) (h0 : r1 ≠ 0) :
    Calls Try.prog 31 #[.agg #[.int .i64 vars, .slice A n c], .slice B m d] w (RetRowsF [] r1 r2 w) := by
  have d1 : (r1 != 0) = true := by simpa using h0
  have hbW := below_alloc (below_new w (.cells #[.int .i64 vars, .slice A n c] 24)) (.cells #[.int .i64 0, .int .i64 0] 28)
  have g := h.keep hbW
  have HBW := Lib.hid hbW
  clear hbW
  go_enter Try.func31, Try.ntmps31
  go_wp2_with fail
  refine (check_own _ _ _ _ _ _ g hv _ _ hr).mono ?_
  rintro e w1 ⟨rfl, hb1⟩
  obtain ⟨k2, k4, _, l1⟩ := two_blks hb1
  have t0 := k4.cell 0
  have t1 := k4.cell 1
  have tf0 := k4.frozen 0
  have tf1 := k4.frozen 1
  simp at t0 t1
  have HB := Lib.hid (below_next HBW.out hb1)
  have l3 : w.heap.size + 1 < w1.heap.size := by omega
  clear hb1 k2 k4 g
  go_wp2_with fail
  go_region
  go_wp2_with fail
  refine bodyPost_ret (v := .tuple #[.slice none 0 0, .agg #[.int .i64 r1, .int .i64 r2]]) (by simp [results, Try.results31, go_sem, t0, t1, l3]) rfl ⟨none, 0, 0, rfl, grid_nil _, ?_⟩
  exact ((below_put2 HB.out (g := w.heap.size + 1) (by omega) _ _).alloc (by simp; omega) _).drew

set_option maxHeartbeats 4000000 in
set_option maxRecDepth 100000 in
theorem res_check (A B : Option Addr) (n c m d : Nat) (xss : List (List Int)) (rs : List R3) (vars : Int) (w : World) (h : Grid w A n c xss) (hv : I64 vars) (ht : Trips w B m d rs) (hr : Hid (checkC vars xss = (0, 0))) (l : List (List Int)) (r1 r2 : Int) (hR : Hid (resC vars xss rs = (l, r1, r2))) :
    Calls Try.prog 31 #[.agg #[.int .i64 vars, .slice A n c], .slice B m d] w (RetRowsF l r1 r2 w) := by
  have hbd := h.bd
  have hlen := Lib.hid h.len
  have hbdt := ht.bd
  have hlt := Lib.hid ht.len
  obtain ⟨_, v0, v1, hn400, hrows⟩ := checkC_ok (vars := vars) (xss := xss) (by rw [hr.out])
  have HLL : Hid (∀ x ∈ xss, Lits vars x) := fun x hx => (hrows x hx).2
  have hn4 : n ≤ 400 := by have := hlen.out; omega
  obtain ⟨i0, hi0, hz0, hz1, hz2⟩ := info_parts row_info
  have G := Lib.hid h
  have TT := Lib.hid ht
  clear h ht hrows hn400
  go_enter Try.func31, Try.ntmps31
  go_wp2_with fail
  refine (check_own _ _ _ _ _ _ (G.out.keep (below_alloc (below_new _ _) _)) hv _ _ hr).mono ?_
  rintro e w1 ⟨rfl, hb1⟩
  obtain ⟨K_c0, K_r0, B_w1, l_w1⟩ := two_blks hb1
  replace G := Lib.hid (G.out.keep B_w1)
  replace TT := Lib.hid (TT.out.keep B_w1)
  have HB := Lib.hid B_w1
  have K_c := Lib.hid K_c0
  have K_r := Lib.hid K_r0
  clear hb1 B_w1 K_c0 K_r0
  have cK_c_0 := K_c.out.cell 0
  have cK_c_1 := K_c.out.cell 1
  simp at cK_c_0 cK_c_1
  have zK_c := K_c.out.lt
  have cK_r_0 := K_r.out.cell 0
  have cK_r_1 := K_r.out.cell 1
  simp at cK_r_0 cK_r_1
  have zK_r := K_r.out.lt
  have fK_r_0 := K_r.out.frozen 0
  have fK_r_1 := K_r.out.frozen 1
  by_cases hbig : 2000 < m
  · have hb2 : ([], (2 : Int), (-1 : Int)) = (l, r1, r2) := by rw [← hR.out, resC, if_pos (by rw [hlt.out]; exact hbig)]
    obtain ⟨rfl, rfl, rfl⟩ : [] = l ∧ 2 = r1 ∧ -1 = r2 := by simpa using hb2
    have l3 : w.heap.size + 1 < w1.heap.size := by omega
    have BF := Lib.hid ((below_put2 HB.out (g := w.heap.size + 1) (by omega) (.int .i64 2) (.int .i64 (-1))).alloc (by simp; omega) (.cells #[.int .i64 0, .int .i64 0] 28))
    go_wp2_with fail
    exact bodyPost_ret (v := .tuple #[.slice none 0 0, .agg #[.int .i64 2, .int .i64 (-1)]]) (by simp [results, Try.results31, go_sem, cK_r_0, cK_r_1, l3]) rfl ⟨none, 0, 0, rfl, grid_nil _, BF.out⟩
  · have hR2 : Hid (((ressF vars rs xss 0).1.drop xss.length, (ressF vars rs xss 0).2) = (l, r1, r2)) := by have := hR.out; rw [resC, if_neg (by rw [hlt.out]; exact hbig)] at this; exact this
    obtain ⟨P, hP⟩ : ∃ P, Hid (ressF vars rs xss 0 = P) := ⟨_, rfl⟩
    rw [hP.out, hlen.out] at hR2
    have hm2 : m ≤ 2000 := by omega
    have dbig : decide (2000 < m) = false := decide_eq_false hbig
    clear hR
    obtain ⟨w0, hw0⟩ : ∃ w0 : World, w0 = w1.alloc (.cells #[.int .i64 0, .int .i64 0] 28) := ⟨_, rfl⟩
    have hb0 : Below w1.heap.size w1 w0 := by rw [hw0]; exact below_new _ _
    obtain ⟨vs0, hsl0, hrw0⟩ := (G.out.keep hb0).rowsP 3 (Nat.le_refl _)
    have HSL := Lib.hid hsl0
    have HRW := Lib.hid hrw0
    have B0 := Lib.hid hb0
    clear hsl0 hrw0 hb0 hbig
    go_wp2_with fail
    rw [← hw0]
    clear hw0
    refine (clone_rows _ _ _ w0.heap.size xss w0 vs0 HSL.out HRW.out (by omega) (Nat.le_refl _)).mono ?_
    rintro e w2 ⟨A2, n2, c2, rfl, hown2, hb2⟩
    obtain rfl : n2 = n := by have h1 := hown2.len; have h2 := hlen.out; omega
    have HO2 := Lib.hid hown2
    have HB2 := Lib.hid hb2
    have gC := keepBox B0.out cK_c_0
    have gC1 := keepBox B0.out cK_c_1
    replace TT := Lib.hid (TT.out.keep B0.out)
    replace K_r := Lib.hid (K_r.out.keep B0.out)
    replace HB := Lib.hid (below_next HB.out B0.out)
    have e2C := keepBox HB2.out gC
    have e2C1 := keepBox HB2.out gC1
    have zK2 := K_r.out.lt
    clear hown2 hb2 HSL HRW cK_c_0 cK_c_1 cK_r_0 cK_r_1 zK_c zK_r fK_r_0 fK_r_1 K_c G B0 l_w1
    go_wp2_with fail
    go_loopw [7, 27] (fun o i wr => ∃ (k na ca : Nat) (Aa : Option Addr) (all : List (List Int)), k ≤ m ∧ n2 ≤ na ∧ na ≤ 400 + k ∧ o = .slice Aa na ca ∧ i = .int .i64 k ∧ Hid (OwnP 26 3 wr w0.heap.size w0.heap.size Aa na ca all) ∧ Hid (∀ x ∈ all, Lits vars x) ∧ Hid (Below w0.heap.size w0 wr) ∧ Hid (ressF vars (rs.drop k) all k = P)) (fun _ i _ => m - (intOf i).toNat)
    case atStart => exact ⟨0, n2, c2, A2, xss, Nat.zero_le _, Nat.le_refl _, by omega, rfl, rfl, HO2, HLL, HB2, hP⟩
    case round =>
      obtain ⟨k, na, ca, Aa, all, hk, hna, hnk, rfl, rfl, hown, hall, hbl, hgo⟩ := hrel
      have e0 := keepBox hbl.out gC
      have e1 := keepBox hbl.out gC1
      have z0 : w.heap.size < wr.heap.size := (cell_lt e0).1
      have hwz := hbl.out.size
      by_cases hkm : k < m
      · obtain ⟨b, off, x, y, z, hBe, hb, t1, t2, t3, hx64, hy64, hz64, hrk⟩ := (TT.out.keep hbl.out).round hkm
        subst hBe
        obtain ⟨nl, code, hone⟩ : ∃ a b, Hid (oneF vars all (x, y, z) = (a, b)) := ⟨_, _, rfl⟩
        have hgo2 : Hid ((if code ≠ 0 then ([], code, (k : Int)) else ressF vars (rs.drop (k + 1)) (all ++ [nl]) (k + 1)) = P) := by have := hgo.out; rw [drop_cons_of hrk.out, ressF, hone.out] at this; exact this
        have hbx := below_new wr (.cells #[.int .i64 x, .int .i64 y, .int .i64 z] 56)
        have HGa := Lib.hid (hown.out.grid.keep hbx)
        have y1 : (0 : Int) ≤ (k : Int) := by omega
        have y2 : (k : Int) < (m : Int) := by omega
        clear hgo hbx
        go_wp2_with fail
        refine (one_any _ _ _ all x y z vars _ HGa.out hx64 hy64 hz64 hall.out v0 (by omega) nl code hone).mono ?_
        rintro e w3 ⟨L3, n3, c3, rfl, hown3, hb3⟩
        obtain ⟨_, B3, l3⟩ := blk1 hb3
        have OW3 := Lib.hid (hown.out.keep B3)
        have BL3 := Lib.hid (below_next hbl.out B3)
        have KR3 := Lib.hid (K_r.out.keep BL3.out)
        have O3 := Lib.hid hown3
        clear hown3 hb3 B3
        by_cases hcode : code = 0
        · subst hcode
          have hnl : Hid (Lits vars nl) := by have := oneF_lits (r := (x, y, z)) hall.out (by rw [hone.out]); rw [hone.out] at this; exact this
          have I3 := Lib.hid (O3.out.ints (fun q hq => (by have := hnl.out.1 q hq; unfold I64; omega)))
          obtain ⟨vs, hv1, hv2⟩ := OW3.out
          have HV1 := Lib.hid (hv1.keep (below_new w3 (.cells #[.slice L3 n3 c3] 26)))
          have HV2 := Lib.hid (hv2.keep (below_new w3 (.cells #[.slice L3 n3 c3] 26)))
          have hS := sl_one w3 26 (.slice L3 n3 c3) rfl
          have hw3 := BL3.out.size
          clear hv1 hv2
          go_wp2_with (first
            | (at_builtin
               refine wpList_append_sl _ rfl (.tmp 45) (.tmp 47) _ rfl w0.heap.size 26 i0 _ 24 Try.underlying22 hi0 hz0 hz1 hz2 rfl Aa na ca _ rfl HV1.out (some ⟨w3.heap.size, 0, none⟩) 1 1 _ rfl hS (by simp [Value.oneCell']) (by simp only [maxLen]; omega) (by omega) (by simp; omega) ?_
               intro L1 cL1 w6 hL1 hg1 hat1
               have HP6 := Lib.hid (OwnP.push HV1.out HV2.out (Nat.le_refl _) row_ne (I3.out.keep (below_new _ _)) (Away.own (O3.out.keep (below_new _ _))) hL1 hg1)
               have HB6 := Lib.hid (below_grown (below_alloc BL3.out (.cells #[.slice L3 n3 c3] 26)) HV1.out (Nat.le_refl _) hg1)
               clear hL1 hg1 hat1))
          go_roundw
          case rel =>
            refine ⟨k + 1, na + 1, cL1, L1, all ++ [nl], by omega, by omega, by omega, rfl, by go_num, HP6, ?_, HB6, by have := hgo2.out; simpa [Hid] using this⟩
            intro q hq
            rcases List.mem_append.1 hq with hq | hq
            · exact hall.out q hq
            · simp at hq; subst hq; exact hnl.out
          case measure => simp [intOf]; omega
        · have dc : (code != 0) = true := by simpa using hcode
          have hPe : ([], code, (k : Int)) = P := by have := hgo2.out; rw [if_pos hcode] at this; exact this
          subst hPe
          obtain ⟨rfl, rfl, rfl⟩ : [] = l ∧ code = r1 ∧ (k : Int) = r2 := by have := hR2.out; simpa using this
          have t0 := KR3.out.cell 0
          have t1' := KR3.out.cell 1
          have tf0 := KR3.out.frozen 0
          have tf1 := KR3.out.frozen 1
          simp at t0 t1'
          have ltr := KR3.out.lt
          obtain ⟨u0, u1⟩ := KR3.out.put2 (.int .i64 code) (.int .i64 k)
          have U0 := Lib.hid u0
          have U1 := Lib.hid u1
          have HB9 := Lib.hid (below_put2 (below_next HB.out BL3.out) (g := w.heap.size + 1) (by omega) (.int .i64 code) (.int .i64 k))
          clear u0 u1
          go_wp2_with fail
          exact bodyPost_ret (v := .tuple #[.slice none 0 0, .agg #[.int .i64 code, .int .i64 k]]) (by simp [results, Try.results31, go_sem, U0.out, U1.out]) rfl ⟨none, 0, 0, rfl, grid_nil _, HB9.out⟩
      · obtain rfl : k = m := by omega
        have hPe : (all, (0 : Int), (0 : Int)) = P := by have := hgo.out; rw [List.drop_of_length_le (by rw [hlt.out]; omega), ressF] at this; exact this
        subst hPe
        obtain ⟨rfl, rfl, rfl⟩ : all.drop n2 = l ∧ 0 = r1 ∧ 0 = r2 := by have := hR2.out; simpa using this
        obtain ⟨vs, hv1, hv2⟩ := hown.out
        have KR3 := Lib.hid (K_r.out.keep hbl.out)
        have DR := Lib.hid (hv2.drop n2)
        have hform := hv1.form
        have hsl := hv1.sl
        have y1 : (0 : Int) ≤ (n2 : Int) := by omega
        have y2 : (n2 : Int) ≤ (na : Int) := by omega
        rcases hform with ⟨rfl, hn0, hc0, _⟩ | ⟨g, cur, rfl, hg, hh, hle, hcm, _⟩
        · obtain rfl : n2 = 0 := by omega
          subst hn0 hc0
          have HSL : Hid (Sl wr none 0 0 (vs.drop 0)) := by simpa [Hid] using hsl
          clear hv1 hv2 hsl
          go_wp2_with fail
          refine (clone_rows none 0 0 w0.heap.size _ wr _ HSL.out DR.out (by omega) hwz).mono ?_
          rintro e w5 ⟨A5, n5, c5, rfl, hown5, hb5⟩
          have G5 := Lib.hid hown5.grid
          have B5 := Lib.hid hb5
          have KR5 := Lib.hid (KR3.out.keep B5.out)
          have t0 := KR5.out.cell 0
          have t1' := KR5.out.cell 1
          have tf0 := KR5.out.frozen 0
          have tf1 := KR5.out.frozen 1
          simp at t0 t1'
          have ltr := KR5.out.lt
          obtain ⟨u0, u1⟩ := KR5.out.put2 (.int .i64 0) (.int .i64 0)
          have U0 := Lib.hid u0
          have U1 := Lib.hid u1
          have HB9 := Lib.hid (below_put2 (below_next HB.out (below_next hbl.out B5.out)) (g := w.heap.size + 1) (by omega) (.int .i64 0) (.int .i64 0))
          have HS2 : Hid (((w5.setCell ⟨w.heap.size + 1, 0, none⟩ (.int .i64 0)).setCell ⟨w.heap.size + 1, 1, none⟩ (.int .i64 0)) = w5) := by
            show _ = _
            rw [setCell_id KR5.out rfl, setCell_id KR5.out rfl]
          clear u0 u1 hown5 hb5
          go_wp2_with fail
          exact bodyPost_ret (v := .tuple #[.slice A5 n5 c5, .agg #[.int .i64 0, .int .i64 0]]) (by simp [results, Try.results31, go_sem, U0.out, U1.out]) rfl ⟨A5, n5, c5, rfl, by rw [HS2.out]; exact G5.out, HB9.out⟩
        · by_cases hcn : ca = n2
          · subst hcn
            obtain rfl : na = ca := by omega
            have HSL : Hid (Sl wr (some ⟨g, 0, none⟩) 0 0 (vs.drop na)) := by rw [List.drop_of_length_le (by rw [hsl.len]; omega)]; exact Sl.nilAny (Nat.zero_le _)
            clear hv1 hv2 hsl
            go_wp2_with fail
            refine (clone_rows (some ⟨g, 0, none⟩) 0 0 w0.heap.size _ wr _ HSL.out DR.out (by omega) hwz).mono ?_
            rintro e w5 ⟨A5, n5, c5, rfl, hown5, hb5⟩
            have G5 := Lib.hid hown5.grid
            have B5 := Lib.hid hb5
            have KR5 := Lib.hid (KR3.out.keep B5.out)
            have t0 := KR5.out.cell 0
            have t1' := KR5.out.cell 1
            have tf0 := KR5.out.frozen 0
            have tf1 := KR5.out.frozen 1
            simp at t0 t1'
            have ltr := KR5.out.lt
            obtain ⟨u0, u1⟩ := KR5.out.put2 (.int .i64 0) (.int .i64 0)
            have U0 := Lib.hid u0
            have U1 := Lib.hid u1
            have HB9 := Lib.hid (below_put2 (below_next HB.out (below_next hbl.out B5.out)) (g := w.heap.size + 1) (by omega) (.int .i64 0) (.int .i64 0))
            have HS2 : Hid (((w5.setCell ⟨w.heap.size + 1, 0, none⟩ (.int .i64 0)).setCell ⟨w.heap.size + 1, 1, none⟩ (.int .i64 0)) = w5) := by
              show _ = _
              rw [setCell_id KR5.out rfl, setCell_id KR5.out rfl]
            clear u0 u1 hown5 hb5
            go_wp2_with fail
            exact bodyPost_ret (v := .tuple #[.slice A5 n5 c5, .agg #[.int .i64 0, .int .i64 0]]) (by simp [results, Try.results31, go_sem, U0.out, U1.out]) rfl ⟨A5, n5, c5, rfl, by rw [HS2.out]; exact G5.out, HB9.out⟩
          · have hcp2 : ((ca : Int) = (n2 : Int)) = False := by simp; omega
            have hcp3 : ¬ ca = n2 := hcn
            have hcp4 : (ca : Int) ≠ (n2 : Int) := by omega
            have y3 : (na : Int) ≤ (ca : Int) := by omega
            have HSL : Hid (Sl wr (some ⟨g, n2, none⟩) (na - n2) (ca - n2) (vs.drop n2)) := by have := hsl.drop (p := n2) (by omega); simpa [Hid] using this
            have hca : ca ≤ 9223372036854775807 := by have := hcm; unfold maxLen at this; omega
            clear hv1 hv2 hsl
            go_wp2_with fail
            refine (clone_rows (some ⟨g, n2, none⟩) (na - n2) (ca - n2) w0.heap.size _ wr _ HSL.out DR.out (by omega) hwz).mono ?_
            rintro e w5 ⟨A5, n5, c5, rfl, hown5, hb5⟩
            have G5 := Lib.hid hown5.grid
            have B5 := Lib.hid hb5
            have KR5 := Lib.hid (KR3.out.keep B5.out)
            have t0 := KR5.out.cell 0
            have t1' := KR5.out.cell 1
            have tf0 := KR5.out.frozen 0
            have tf1 := KR5.out.frozen 1
            simp at t0 t1'
            have ltr := KR5.out.lt
            obtain ⟨u0, u1⟩ := KR5.out.put2 (.int .i64 0) (.int .i64 0)
            have U0 := Lib.hid u0
            have U1 := Lib.hid u1
            have HB9 := Lib.hid (below_put2 (below_next HB.out (below_next hbl.out B5.out)) (g := w.heap.size + 1) (by omega) (.int .i64 0) (.int .i64 0))
            have HS2 : Hid (((w5.setCell ⟨w.heap.size + 1, 0, none⟩ (.int .i64 0)).setCell ⟨w.heap.size + 1, 1, none⟩ (.int .i64 0)) = w5) := by
              show _ = _
              rw [setCell_id KR5.out rfl, setCell_id KR5.out rfl]
            clear u0 u1 hown5 hb5
            go_wp2_with fail
            exact bodyPost_ret (v := .tuple #[.slice A5 n5 c5, .agg #[.int .i64 0, .int .i64 0]]) (by simp [results, Try.results31, go_sem, U0.out, U1.out]) rfl ⟨A5, n5, c5, rfl, by rw [HS2.out]; exact G5.out, HB9.out⟩
end Go.Proofs.Ytecgmgidfjbamaa
