/- Contract of elim.Blocked. (Printed by wip/tools/blocked.py.) -/
import Derived.Test.YtecgmgidfjbamaaSorted
import Derived.Test.YtecgmgidfjbamaaSat
import Derived.Test.YtecgmgidfjbamaaCnfB
import Derived.Test.YtecgmgidfjbamaaBoxes
namespace Go.Proofs.Ytecgmgidfjbamaa
open Go.RowKit

/-- Does the clause xs resolve with ci on l? -/
def opnB (ci : List Int) (l : Int) (xs : List Int) : Bool := hasB xs (-l) && !(ci.any (fun y => y != l && hasB xs (-y)))
def blkF (xss : List (List Int)) (ci : List Int) : List Int := (sortF ci).filter (fun l => !(xss.any (opnB ci l)))
def RetRw (t : List Int) (w : World) (e : Ending) (w' : World) : Prop :=
  ∃ L nl cl, e = .returned (.tuple #[.slice L nl cl, .agg #[.int .i64 0, .int .i64 0]]) ∧ Ints w' L nl cl t ∧ Below w.heap.size w w'

theorem blk_lit (y l : Int) (bl bx : Nat) (W : World) (X : Option Addr) (nx cx : Nat) (xs : List Int) (hc : W.cell? ⟨bl, 0, none⟩ = some (.int .i64 l)) (hc' : W.cell? ⟨bx, 0, none⟩ = some (.slice X nx cx)) (hx : Ints W X nx cx xs) (hy : -1000000 ≤ y ∧ y ≤ 1000000) :
    Calls Try.prog 50 #[.int .i64 y, .pointer (some ⟨bl, 0, none⟩), .pointer (some ⟨bx, 0, none⟩)] W (RetQ (.bool (y != l && hasB xs (-y))) W) := by
  cases hyl : (y != l)
  · go_enter Try.func50, Try.ntmps50
    go_wp2_with fail
    go_ret
    exact RetQ.of0 rfl
  · obtain ⟨r, hr⟩ : ∃ r, Hid (hasB xs (-y) = r) := ⟨_, rfl⟩
    rw [hr.out]
    go_enter Try.func50, Try.ntmps50
    go_wp2_with fail
    refine (contains_ints _ _ _ xs (-y) _ hx r hr).mono ?_
    rintro e w1 ⟨rfl, m, rfl⟩
    go_wp2_with fail
    go_ret
    exact RetQ.of _ (by simp)
theorem enters_b11 : Enters Try.prog 50 := enters_of Try.func50 (by kernel_rfl) rfl

set_option maxHeartbeats 1000000 in
theorem blk_row (bl bc bi i : Nat) (W : World) (l vars : Int) (A X : Option Addr) (n c nx cx : Nat) (xss : List (List Int)) (ci xs : List Int) (hl : W.cell? ⟨bl, 0, none⟩ = some (.int .i64 l)) (hc : W.cell? ⟨bc, 1, none⟩ = some (.slice A n c)) (hi : W.cell? ⟨bi, 0, none⟩ = some (.int .i64 i))
    (hg : Grid W A n c xss) (hx : Ints W X nx cx xs) (hci : xss[i]? = some ci) (hcb : ∀ y ∈ ci, -1000000 ≤ y ∧ y ≤ 1000000) (hlb : -1000000 ≤ l ∧ l ≤ 1000000) :
    Calls Try.prog 47 #[.slice X nx cx, .pointer (some ⟨bl, 0, none⟩), .pointer (some ⟨bc, 0, none⟩), .pointer (some ⟨bi, 0, none⟩)] W (RetV (.bool (opnB ci l xs)) W) := by
  have _hv := vars
  obtain ⟨q, hq⟩ : ∃ q, Hid (hasB xs (-l) = q) := ⟨_, rfl⟩
  obtain ⟨p, hp⟩ : ∃ p, Hid (ci.any (fun y => y != l && hasB xs (-y)) = p) := ⟨_, rfl⟩
  rw [opnB, hq.out, hp.out]
  have hin : i < n := by rw [← hg.len]; exact (List.getElem?_eq_some_iff.1 hci).1
  obtain ⟨b0, off, A', n', c', xs', rfl, hb, hcell, hi', hxs⟩ := hg.round hin
  obtain rfl : xs' = ci := by have := hxs.out; rw [hci] at this; cases this; rfl
  have HI := Lib.hid hi'
  have HX := Lib.hid hx
  have HCB := Lib.hid hcb
  have lt1 : bl < W.heap.size := (cell_lt hl).1
  have lt2 : bc < W.heap.size := (cell_lt hc).1
  have lt3 : bi < W.heap.size := (cell_lt hi).1
  have y1 : (0 : Int) ≤ (i : Int) := by omega
  have y2 : (i : Int) < (n : Int) := by omega
  have HL := Lib.hid hl
  clear hci hcb hxs hi' hx hg
  go_enter Try.func47, Try.ntmps47
  go_wp2_with fail
  refine (contains_ints _ _ _ xs (-l) _ (HX.out.keep (below_new _ _)) q hq).mono ?_
  rintro e w1 ⟨rfl, m1, rfl⟩
  cases q
  · go_wp2_with fail
    go_ret
    exact ⟨rfl, below_next (below_new _ _) (below_drewN _ _)⟩
  · have HP : Hid (Pred 50 #[.pointer (some ⟨bl, 0, none⟩), .pointer (some ⟨W.heap.size, 0, none⟩)] xs' (fun y => y != l && hasB xs (-y)) ((W.alloc (.cells #[.slice X nx cx] 26)).drewN m1)) := by
      intro V y hV hy
      have hV2 := below_next (below_next (below_new W (.cells #[.slice X nx cx] 26)) (below_drewN _ m1)) hV
      exact (blk_lit y l bl W.heap.size V X nx cx xs (keepBox hV2 HL.out) (keepBox (below_next (below_drewN _ m1) hV) (by simp [go_sem])) (HX.out.keep hV2) (HCB.out y hy)).mono fun _ _ hh => hh.v
    go_wp2_with fail
    refine (containsFunc_ints _ _ _ xs' _ ((HI.out.keep (below_new _ _)).drewN m1) _ _ enters_b11 _ HP.out p hp).mono ?_
    rintro e w2 ⟨rfl, hb2⟩
    have HB2 := Lib.hid (below_next (below_next (below_new W (.cells #[.slice X nx cx] 26)) (below_drewN _ m1)) hb2)
    clear hb2
    cases p
    all_goals
      go_wp2_with fail
      go_ret
      exact ⟨rfl, HB2.out⟩
theorem enters_b1 : Enters Try.prog 47 := enters_of Try.func47 (by kernel_rfl) rfl

set_option maxHeartbeats 1000000 in
theorem blocked_wrong (A : Option Addr) (n c : Nat) (xss : List (List Int)) (vars i : Int) (w : World) (h : Grid w A n c xss) (hv : I64 vars) (r1 r2 : Int) (hr : Hid (checkC vars xss = (r1, r2))) (h0 : r1 ≠ 0) :
    Calls Try.prog 16 #[.agg #[.int .i64 vars, .slice A n c], .int .i64 i] w (RetV (.tuple #[.slice none 0 0, .agg #[.int .i64 r1, .int .i64 r2]]) w) := by
  have d1 : (r1 != 0) = true := by simpa using h0
  have hbW := below_alloc (below_alloc (below_new w (.cells #[.int .i64 vars, .slice A n c] 24)) (.cells #[.int .i64 i] 3)) (.cells #[.int .i64 0, .int .i64 0] 28)
  have g := h.keep hbW
  have HBW := Lib.hid hbW
  clear hbW
  go_enter Try.func16, Try.ntmps16
  go_wp2_with fail
  refine (check_own _ _ _ _ _ _ g hv _ _ hr).mono ?_
  rintro e w1 ⟨rfl, hb1⟩
  obtain ⟨k2, k3, k4, _, l1⟩ := blk3 hb1
  have t0 := k4.cell 0
  have t1 := k4.cell 1
  have tf0 := k4.frozen 0
  have tf1 := k4.frozen 1
  simp at t0 t1
  have HB := Lib.hid (below_next HBW.out hb1)
  have l3 : w.heap.size + 1 + 1 < w1.heap.size := by omega
  clear hb1 k2 k3 k4 g
  go_wp2_with fail
  go_region
  go_wp2_with fail
  refine bodyPost_ret (v := .tuple #[.slice none 0 0, .agg #[.int .i64 r1, .int .i64 r2]]) (by simp [results, Try.results16, go_sem, t0, t1, l3]) rfl ⟨rfl, ?_⟩
  exact ((below_put2 HB.out (g := w.heap.size + 1 + 1) (by omega) _ _).alloc (by simp; omega) _).drew

set_option maxHeartbeats 1000000 in
theorem blocked_out (A : Option Addr) (n c : Nat) (xss : List (List Int)) (vars i : Int) (w : World) (h : Grid w A n c xss) (hv : I64 vars) (hr : Hid (checkC vars xss = (0, 0))) (h0 : i < 0 ∨ (n : Int) ≤ i) :
    Calls Try.prog 16 #[.agg #[.int .i64 vars, .slice A n c], .int .i64 i] w (RetV (.tuple #[.slice none 0 0, .agg #[.int .i64 3, .int .i64 (-1)]]) w) := by
  have hbd := h.bd
  have G := Lib.hid h
  clear h
  by_cases hneg : i < 0
  · have dn : decide (i < 0) = true := decide_eq_true hneg
    go_enter Try.func16, Try.ntmps16
    go_wp2_with fail
    refine (check_own _ _ _ _ _ _ (G.out.keep (below_alloc (below_alloc (below_new _ _) _) _)) hv _ _ hr).mono ?_
    rintro e w1 ⟨rfl, hb1⟩
    obtain ⟨K_c0, K_i0, K_r0, B_w1, l_w1⟩ := blk3 hb1
    replace G := Lib.hid (G.out.keep B_w1)
    have HB := Lib.hid B_w1
    have K_c := Lib.hid K_c0
    have K_i := Lib.hid K_i0
    have K_r := Lib.hid K_r0
    clear hb1 B_w1 K_c0 K_i0 K_r0
    have cK_c_0 := K_c.out.cell 0
    have cK_c_1 := K_c.out.cell 1
    simp at cK_c_0 cK_c_1
    have zK_c := K_c.out.lt
    have cK_i_0 := K_i.out.cell 0
    simp at cK_i_0
    have zK_i := K_i.out.lt
    have cK_r_0 := K_r.out.cell 0
    have cK_r_1 := K_r.out.cell 1
    simp at cK_r_0 cK_r_1
    have zK_r := K_r.out.lt
    have fK_r_0 := K_r.out.frozen 0
    have fK_r_1 := K_r.out.frozen 1
    have l3 : w.heap.size + 1 + 1 < w1.heap.size := by omega
    have BF := Lib.hid ((below_put2 HB.out (g := w.heap.size + 1 + 1) (by omega) (.int .i64 3) (.int .i64 (-1))).alloc (by simp; omega) (.cells #[.int .i64 0, .int .i64 0] 28))
    go_wp2_with fail
    exact bodyPost_ret (v := .tuple #[.slice none 0 0, .agg #[.int .i64 3, .int .i64 (-1)]]) (by simp [results, Try.results16, go_sem, cK_r_0, cK_r_1, l3]) rfl ⟨rfl, BF.out⟩
  · have dn : decide (i < 0) = false := decide_eq_false hneg
    have hge : (n : Int) ≤ i := by omega
    have dg : decide ((n : Int) ≤ i) = true := decide_eq_true hge
    go_enter Try.func16, Try.ntmps16
    go_wp2_with fail
    refine (check_own _ _ _ _ _ _ (G.out.keep (below_alloc (below_alloc (below_new _ _) _) _)) hv _ _ hr).mono ?_
    rintro e w1 ⟨rfl, hb1⟩
    obtain ⟨K_c0, K_i0, K_r0, B_w1, l_w1⟩ := blk3 hb1
    replace G := Lib.hid (G.out.keep B_w1)
    have HB := Lib.hid B_w1
    have K_c := Lib.hid K_c0
    have K_i := Lib.hid K_i0
    have K_r := Lib.hid K_r0
    clear hb1 B_w1 K_c0 K_i0 K_r0
    have cK_c_0 := K_c.out.cell 0
    have cK_c_1 := K_c.out.cell 1
    simp at cK_c_0 cK_c_1
    have zK_c := K_c.out.lt
    have cK_i_0 := K_i.out.cell 0
    simp at cK_i_0
    have zK_i := K_i.out.lt
    have cK_r_0 := K_r.out.cell 0
    have cK_r_1 := K_r.out.cell 1
    simp at cK_r_0 cK_r_1
    have zK_r := K_r.out.lt
    have fK_r_0 := K_r.out.frozen 0
    have fK_r_1 := K_r.out.frozen 1
    have l3 : w.heap.size + 1 + 1 < w1.heap.size := by omega
    have BF := Lib.hid ((below_put2 HB.out (g := w.heap.size + 1 + 1) (by omega) (.int .i64 3) (.int .i64 (-1))).alloc (by simp; omega) (.cells #[.int .i64 0, .int .i64 0] 28))
    go_wp2_with fail
    exact bodyPost_ret (v := .tuple #[.slice none 0 0, .agg #[.int .i64 3, .int .i64 (-1)]]) (by simp [results, Try.results16, go_sem, cK_r_0, cK_r_1, l3]) rfl ⟨rfl, BF.out⟩

set_option maxHeartbeats 4000000 in
set_option maxRecDepth 100000 in
theorem blocked_own (A : Option Addr) (n c i : Nat) (xss : List (List Int)) (ci : List Int) (vars : Int) (w : World) (h : Grid w A n c xss) (hv : I64 vars) (hr : Hid (checkC vars xss = (0, 0))) (hci : Hid (xss[i]? = some ci)) :
    Calls Try.prog 16 #[.agg #[.int .i64 vars, .slice A n c], .int .i64 i] w (RetRw (blkF xss ci) w) := by
  have hbd := h.bd
  obtain ⟨_, v0, v1, hn400, hrows⟩ := checkC_ok (vars := vars) (xss := xss) (by rw [hr.out])
  have hin : i < n := by rw [← h.len]; exact (List.getElem?_eq_some_iff.1 hci.out).1
  have hcm := List.mem_of_getElem? hci.out
  have hcl : ci.length ≤ 24 := (hrows ci hcm).1
  have HCB : Hid (∀ y ∈ ci, -1000000 ≤ y ∧ y ≤ 1000000) := fun y hy => by have := (hrows ci hcm).2.1 y hy; omega
  obtain ⟨i0, hi0, hz0, hz1, hz2⟩ := info_parts int_info
  have di : decide ((i : Int) < 0) = false := decide_eq_false (by omega)
  have dge : decide ((n : Int) ≤ (i : Int)) = false := decide_eq_false (by omega)
  have dge2 : decide (n ≤ i) = false := decide_eq_false (by omega)
  have yi0 : (0 : Int) ≤ (i : Int) := by omega
  have yi1 : (i : Int) < (n : Int) := by omega
  have G := Lib.hid h
  clear h hrows hn400 hcm
  go_enter Try.func16, Try.ntmps16
  go_wp2_with fail
  refine (check_own _ _ _ _ _ _ (G.out.keep (below_alloc (below_alloc (below_new _ _) _) _)) hv _ _ hr).mono ?_
  rintro e w1 ⟨rfl, hb1⟩
  obtain ⟨K_c0, K_i0, K_r0, B_w1, l_w1⟩ := blk3 hb1
  replace G := Lib.hid (G.out.keep B_w1)
  have HB := Lib.hid B_w1
  have K_c := Lib.hid K_c0
  have K_i := Lib.hid K_i0
  have K_r := Lib.hid K_r0
  clear hb1 B_w1 K_c0 K_i0 K_r0
  have cK_c_0 := K_c.out.cell 0
  have cK_c_1 := K_c.out.cell 1
  simp at cK_c_0 cK_c_1
  have zK_c := K_c.out.lt
  have cK_i_0 := K_i.out.cell 0
  simp at cK_i_0
  have zK_i := K_i.out.lt
  have cK_r_0 := K_r.out.cell 0
  have cK_r_1 := K_r.out.cell 1
  simp at cK_r_0 cK_r_1
  have zK_r := K_r.out.lt
  obtain ⟨b0, off, A', n', c', xs', hAe, hb, hcell, hi', hxs⟩ := (G.out.keep (below_new w1 (.cells #[.int .i64 0, .int .i64 0] 28))).round hin
  subst hAe
  obtain rfl : xs' = ci := by have := hxs.out; rw [hci.out] at this; cases this; rfl
  have HI := Lib.hid hi'
  have hn6 : n' ≤ 1000000 := by have := hi'.len; have := hcl; omega
  clear hxs hi'
  go_wp2_with fail
  refine (sorted_any _ _ _ xs' _ HI.out HCB.out hn6).mono ?_
  rintro e w2 ⟨L2, n2, c2, rfl, hown2, hb2⟩
  obtain ⟨K_f0, B_w2, l_w2⟩ := blk1 hb2
  replace G := Lib.hid (G.out.keep B_w2)
  replace K_c := Lib.hid (K_c.out.keep B_w2)
  replace K_i := Lib.hid (K_i.out.keep B_w2)
  replace K_r := Lib.hid (K_r.out.keep B_w2)
  replace HB := Lib.hid (below_next HB.out B_w2)
  have K_f := Lib.hid K_f0
  clear hb2 B_w2 K_f0
  clear cK_c_0 cK_c_1 zK_c cK_i_0 zK_i cK_r_0 cK_r_1 zK_r
  have cK_c_0 := K_c.out.cell 0
  have cK_c_1 := K_c.out.cell 1
  simp at cK_c_0 cK_c_1
  have zK_c := K_c.out.lt
  have cK_i_0 := K_i.out.cell 0
  simp at cK_i_0
  have zK_i := K_i.out.lt
  have cK_r_0 := K_r.out.cell 0
  have cK_r_1 := K_r.out.cell 1
  simp at cK_r_0 cK_r_1
  have zK_r := K_r.out.lt
  have cK_f_0 := K_f.out.cell 0
  have cK_f_1 := K_f.out.cell 1
  simp at cK_f_0 cK_f_1
  have zK_f := K_f.out.lt
  have HSI := Lib.hid (hown2.ints (fun z hz => (by have := HCB.out z (sortF_mem.1 hz); unfold I64; omega)))
  have hn2 : n2 ≤ 1000000 := by have h1 := hown2.len; rw [List.length_map, sortF_len] at h1; omega
  have hl2 := Lib.hid HSI.out.len
  have hbd2 := HSI.out.bd
  clear hown2 hcell HI
  go_wp2_with fail
  go_loopw [7, 34] (fun o i wr => ∃ (k nl cl : Nat) (Lf : Option Addr) (ys : List Int), k ≤ n2 ∧ nl ≤ k ∧ o = .slice Lf nl cl ∧ i = .int .i64 k ∧ Hid (Below w2.heap.size w2 wr) ∧ Hid (Own 3 wr w2.heap.size Lf nl cl (ys.map (Value.int .i64))) ∧ Hid (∀ y ∈ ys, I64 y) ∧ Hid (ys ++ ((sortF xs').drop k).filter (fun l => !(xss.any (opnB xs' l))) = blkF xss xs')) (fun _ i _ => n2 - (intOf i).toNat)
  case atStart => exact ⟨0, 0, 0, none, [], Nat.zero_le _, Nat.le_refl _, rfl, rfl, Below.refl _ _, Own.nil _ _ _, by simp [Hid], by simp [Hid, blkF]⟩
  case round =>
    obtain ⟨k, nl, cl, Lf, ys, hk, hnl, rfl, rfl, hbl, hown, hys, hdone⟩ := hrel
    have e1 := keepBox hbl.out cK_c_1
    have ei := keepBox hbl.out cK_i_0
    have z1 : w.heap.size < wr.heap.size := (cell_lt e1).1
    have hwz := hbl.out.size
    by_cases hlt : k < n2
    · obtain ⟨b3, off3, l, hLe, hb3, hcell3, l1, l2, hlk⟩ := (HSI.out.keep hbl.out).round hlt
      subst hLe
      have hlb := HCB.out l (sortF_mem.1 (List.mem_of_getElem? hlk.out))
      obtain ⟨q, hq⟩ : ∃ q, Hid (xss.any (opnB xs' l) = q) := ⟨_, rfl⟩
      have hdone2 : Hid (ys ++ ((if q then [] else [l]) ++ ((sortF xs').drop (k + 1)).filter (fun l => !(xss.any (opnB xs' l)))) = blkF xss xs') := by
        have := hdone.out
        rw [drop_cons_of hlk.out, List.filter_cons, hq.out] at this
        show _ = _
        cases q <;> simpa using this
      have gW := Lib.hid ((G.out.keep hbl.out).keep (below_new wr (.cells #[.int .i64 l] 3)))
      have HP : Hid (PredR 47 #[.pointer (some ⟨wr.heap.size, 0, none⟩), .pointer (some ⟨w.heap.size, 0, none⟩), .pointer (some ⟨w.heap.size + 1, 0, none⟩)] xss (opnB xs' l) (wr.alloc (.cells #[.int .i64 l] 3))) := by
        intro V X nx cx xs hV hxs _
        have hV2 := below_next (below_new wr (.cells #[.int .i64 l] 3)) hV
        exact blk_row wr.heap.size w.heap.size (w.heap.size + 1) i V l 0 _ X n c nx cx xss xs' xs (keepBox hV (by simp [go_sem])) (keepBox hV2 e1) (keepBox hV2 ei) (gW.out.keep hV) hxs hci.out HCB.out hlb
      clear hdone
      go_wp2_with fail
      refine (containsFunc_rows _ _ _ xss _ gW.out _ _ enters_b1 _ HP.out q hq).mono ?_
      rintro e w4 ⟨rfl, hb4⟩
      obtain ⟨K4, B4, l4⟩ := blk1 hb4
      have k40 := K4.cell 0
      simp at k40
      have hown4 := Lib.hid (hown.out.keep B4)
      have hbl4 := Lib.hid (below_next hbl.out B4)
      have hw4 := hbl4.out.size
      clear hb4 B4 K4 hown hbl HP gW hcell3
      cases q
      · have hS := ints_made w4 3 [l] rfl (by simp [I64]; omega) (by simp [maxLen])
        go_wp2_with (first
          | (at_builtin
             refine wpList_append_sl _ rfl (.tmp 44) (.tmp 46) _ rfl w2.heap.size 3 i0 _ 8 Try.underlying26 hi0 hz0 hz1 hz2 rfl Lf nl cl _ rfl (hown4.out.keep (below_new _ _)) (some ⟨w4.heap.size, 0, none⟩) 1 1 _ rfl hS.sl (ints_one _) (by simp only [maxLen]; omega) (by omega) (by simp; omega) ?_
             intro L1 cL1 w5 hL1 hg1 hat1
             have HL1 := Lib.hid hL1
             have HB5 := Lib.hid (below_grown (below_alloc hbl4.out (.cells #[.int .i64 l] 3)) (hown4.out.keep (below_new w4 (.cells #[.int .i64 l] 3))) (Nat.le_refl _) hg1)
             clear hL1 hg1 hat1))
        go_roundw
        case rel =>
          refine ⟨k + 1, nl + 1, cL1, L1, ys ++ [l], by omega, by omega, rfl, by go_num, HB5, by rw [List.map_append]; exact HL1, ?_, by have := hdone2.out; simpa [Hid] using this⟩
          intro z hz
          rcases List.mem_append.1 hz with hz | hz
          · exact hys.out z hz
          · simp at hz; subst hz; exact ⟨l1, l2⟩
        case measure => simp [intOf]; omega
      · go_wp2_with fail
        go_roundw
        case rel => exact ⟨k + 1, nl, cl, Lf, ys, by omega, by omega, rfl, by go_num, hbl4, hown4, hys, by have := hdone2.out; simpa [Hid] using this⟩
        case measure => simp [intOf]; omega
    · have hres : Hid (ys = blkF xss xs') := by have := hdone.out; rw [List.drop_of_length_le (by rw [hl2.out]; omega)] at this; simpa [Hid] using this
      have KR := Lib.hid (K_r.out.keep hbl.out)
      have t0 := KR.out.cell 0
      have t1 := KR.out.cell 1
      have tf0 := KR.out.frozen 0
      have tf1 := KR.out.frozen 1
      simp at t0 t1
      have ltr := KR.out.lt
      obtain ⟨u0, u1⟩ := KR.out.put2 (.int .i64 0) (.int .i64 0)
      have U0 := Lib.hid u0
      have U1 := Lib.hid u1
      have hneF := hown.out.geb (show w.heap.size + 1 + 1 < w2.heap.size by omega)
      have HI9 := Lib.hid (((hown.out.ints hys.out).kept (grown_setCell _ ⟨w.heap.size + 1 + 1, 0, none⟩ (.int .i64 0)) hneF).kept (grown_setCell _ ⟨w.heap.size + 1 + 1, 1, none⟩ (.int .i64 0)) hneF)
      have HB9 := Lib.hid (below_put2 (below_next HB.out hbl.out) (g := w.heap.size + 1 + 1) (by omega) (.int .i64 0) (.int .i64 0))
      clear u0 u1 hneF
      go_wp2_with fail
      exact bodyPost_ret (v := .tuple #[.slice Lf nl cl, .agg #[.int .i64 0, .int .i64 0]]) (by simp [results, Try.results16, go_sem, U0.out, U1.out]) rfl
        ⟨Lf, nl, cl, rfl, by rw [← hres.out]; exact HI9.out, HB9.out⟩
end Go.Proofs.Ytecgmgidfjbamaa
