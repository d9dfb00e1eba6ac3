/- Contract of best.Do: a shortest plan, or none. (Printed by wip/tools/bestdo.py.) -/
import Derived.Test.YtlfgcblijfflfaaActChk
import Derived.Test.YtlfgcblijfflfaaPlanFn
namespace Go.Proofs.Ytlfgcblijfflfaa
open Go.RowKit Go.Maps Go.WideMaps
set_option linter.unusedSimpArgs false
set_option linter.unusedVariables false

def RetBest (al : List Ac) (f0 g : Nat) (w : World) (e : Ending) (w' : World) : Prop := ∃ (st : Int) (P : Option Addr) (np cp : Nat), e = .returned (.tuple #[.int .i64 st, .slice P np cp, .agg #[.int .i64 0, .int .i64 0]]) ∧ Below w.heap.size w w' ∧
  ((st = 1 ∧ ∃ p s, Ints w' P np cp (natI p) ∧ walkF al p f0 = some s ∧ s &&& g = g ∧ p.length ≤ 16 ∧ ∀ p' u, walkF al p' f0 = some u → u &&& g = g → p.length ≤ p'.length) ∨ (st = 2 ∧ ∀ p' u, walkF al p' f0 = some u → ¬ u &&& g = g))
theorem below_grown_b {w wr w' : World} {k : Option Nat} (hB : Below w.heap.size w wr) (hg : wr.grownBy w' k) (hk : ∀ j, k = some j → w.heap.size ≤ j) : Below w.heap.size w w' := hB.grown hg hB.size hk
theorem own_far {e : TypeId} {w : World} {base n c k : Nat} {A : Option Addr} {xs : List Value} (h : Own e w base A n c xs) (hk : k < base) : blockOf A = none ∨ blockOf A ≠ some k := by
  cases hb : blockOf A with
  | none => exact .inl rfl
  | some j => exact .inr (fun e => by cases e; have := own_base_p h hb; omega)
theorem own_size {e : TypeId} {w : World} {base n c : Nat} {A : Option Addr} {xs : List Value} (h : Own e w base A n c xs) (hn : 0 < n) : base ≤ w.heap.size := by
  rcases h.form with ⟨_, h0, _⟩ | ⟨g', cur, rfl, hg', hh, _⟩
  · omega
  · have := (Array.getElem?_eq_some_iff.1 hh).1
    omega
theorem ints_put2 {w : World} {P : Option Addr} {np cp B : Nat} {xs : List Int} (h : Ints w P np cp xs) (hF : Blk w B 28 #[.int .i64 0, .int .i64 0]) : Ints ((w.setCell ⟨B, 0, none⟩ (.int .i64 0)).setCell ⟨B, 1, none⟩ (.int .i64 0)) P np cp xs := by
  rw [setCell_id hF (i := 0) (v := .int .i64 0) rfl, setCell_id hF (i := 1) (v := .int .i64 0) rfl]
  exact h
def stI (W : List Wy) : List Int := W.map (fun y : Wy => (y.s : Int))
theorem Bfs.i_le {al : List Ac} {f0 : Nat} {W : List Wy} {i k : Nat} (h : Bfs al f0 W i k) {x : Wy} (hx : W[i]? = some x) : x.long ≤ 15 := by
  have h1 := h.idx i x hx
  have h2 := h.len
  have h3 := (List.getElem?_eq_some_iff.1 hx).1
  omega

set_option maxHeartbeats 8000000 in
set_option maxRecDepth 100000 in
theorem best_any (q : Qv) (f0 g : Nat) (al : List Ac) (w : World) (h : QstR w q f0 g al) :
    Calls Try.prog 5 #[.agg #[.int .i64 4, .slice q.F q.nF q.cF, .slice q.G q.nG q.cG, .slice q.A q.n q.c]] w (RetBest al f0 g w) := by
  have H := Lib.hid h
  have hn3 := h.n3
  have hf16 := h.f16
  have hg16 := h.g16
  have hal : Hid (al.length = q.n) := h.acts.1
  obtain ⟨i0, hi0, hz0, hz1, hz2⟩ := info_parts int_info
  have wf2 := way_f2
  have hmm := @run_makeMap Try.prog
  obtain ⟨w0, hw0⟩ : ∃ z : World, Hid (z = (w.alloc (.cells #[.int .i64 4, .slice q.F q.nF q.cF, .slice q.G q.nG q.cG, .slice q.A q.n q.c] 25)).alloc (.cells #[.int .i64 0, .int .i64 0] 28)) := ⟨_, rfl⟩
  have hb0 : Below w.heap.size w w0 := by rw [hw0.out]; exact below_alloc (below_new _ _) _
  have HK : Hid (Blk w0 w.heap.size 25 #[.int .i64 4, .slice q.F q.nF q.cF, .slice q.G q.nG q.cG, .slice q.A q.n q.c]) := by rw [Hid, hw0.out]; exact (Blk.new _ _ _).alloc _
  have HF : Hid (Blk w0 (w.heap.size + 1) 28 #[.int .i64 0, .int .i64 0]) := by rw [hw0.out]; have := Blk.new (w.alloc (.cells #[.int .i64 4, .slice q.F q.nF q.cF, .slice q.G q.nG q.cG, .slice q.A q.n q.c] 25)) 28 #[.int .i64 0, .int .i64 0]; simpa [Hid] using this
  have HB := Lib.hid hb0
  have HQ := Lib.hid (h.keep hb0)
  clear h hb0
  have hk_c0 := HK.out.cell 0
  have hk_c1 := HK.out.cell 1
  have hk_c2 := HK.out.cell 2
  have hk_c3 := HK.out.cell 3
  have hk_l := HK.out.lt
  simp at hk_c0 hk_c1 hk_c2 hk_c3
  go_enter Try.func5, Try.ntmps5
  go_wp2_with fail
  rw [← hw0.out]
  skip
  refine (chk_quest q f0 g al w0 HQ.out).mono ?_
  rintro e wq0 ⟨rfl, hbq⟩
  have HK_0 := Lib.hid (HK.out.keep hbq)
  have HF_0 := Lib.hid (HF.out.keep hbq)
  have HQ_0 := Lib.hid (HQ.out.keep hbq)
  have HB_0 := Lib.hid (below_next HB.out hbq)
  clear hbq HK HF HQ HB hk_c0 hk_c1 hk_c2 hk_c3 hk_l
  have hk_c0 := HK_0.out.cell 0
  have hk_c1 := HK_0.out.cell 1
  have hk_c2 := HK_0.out.cell 2
  have hk_c3 := HK_0.out.cell 3
  have hk_l := HK_0.out.lt
  simp at hk_c0 hk_c1 hk_c2 hk_c3
  go_wp2_with fail
  obtain ⟨wq1, hwwq1⟩ : ∃ z : World, z = wq0.alloc (.cells #[.int .i64 0, .int .i64 0] 28) := ⟨_, rfl⟩
  have hbq : Below wq0.heap.size wq0 wq1 := by rw [hwwq1]; exact below_new _ _
  have HK_1 := Lib.hid (HK_0.out.keep hbq)
  have HF_1 := Lib.hid (HF_0.out.keep hbq)
  have HQ_1 := Lib.hid (HQ_0.out.keep hbq)
  have HB_1 := Lib.hid (below_next HB_0.out hbq)
  clear hbq HK_0 HF_0 HQ_0 HB_0 hk_c0 hk_c1 hk_c2 hk_c3 hk_l
  rw [← hwwq1]
  clear hwwq1
  skip
  refine (bits_any q.G q.nG q.cG g wq1 HQ_1.out.iG H.out.g16).mono ?_
  rintro e wq2 ⟨rfl, mq, hmq⟩
  have hbq : Below wq1.heap.size wq1 wq2 := by rw [hmq]; exact below_drewN _ _
  clear hmq
  have HK_2 := Lib.hid (HK_1.out.keep hbq)
  have HF_2 := Lib.hid (HF_1.out.keep hbq)
  have HQ_2 := Lib.hid (HQ_1.out.keep hbq)
  have HB_2 := Lib.hid (below_next HB_1.out hbq)
  clear hbq HK_1 HF_1 HQ_1 HB_1 
  have hk_c0 := HK_2.out.cell 0
  have hk_c1 := HK_2.out.cell 1
  have hk_c2 := HK_2.out.cell 2
  have hk_c3 := HK_2.out.cell 3
  have hk_l := HK_2.out.lt
  simp at hk_c0 hk_c1 hk_c2 hk_c3
  go_wp2_with fail
  refine (bits_any q.F q.nF q.cF f0 wq2 HQ_2.out.iF H.out.f16).mono ?_
  rintro e wq3 ⟨rfl, mq, hmq⟩
  have hbq : Below wq2.heap.size wq2 wq3 := by rw [hmq]; exact below_drewN _ _
  clear hmq
  have HK_3 := Lib.hid (HK_2.out.keep hbq)
  have HF_3 := Lib.hid (HF_2.out.keep hbq)
  have HQ_3 := Lib.hid (HQ_2.out.keep hbq)
  have HB_3 := Lib.hid (below_next HB_2.out hbq)
  clear hbq HK_2 HF_2 HQ_2 HB_2 hk_c0 hk_c1 hk_c2 hk_c3 hk_l
  have hm0 : MapW (wq3.alloc (.map #[] 0)) wq3.heap.size 0 (.map []) := World.ownsMap_made (H := Unit) wq3 Try.prog 3 wayR
  obtain ⟨w5, hins, hm5, hg5⟩ := World.ownsMap.update hm0 keyed_int_w Try.underlying63 (by unfold maxLen; omega) (key_w (f0 : Int) (by unfold I64; omega)) (wayR_mk (-1) (-1) 0)
  have HD5 : Hid (WayM ((DataW.map []).put (.int .i64 (f0 : Int)) (wayD (-1) (-1) 0)) [⟨f0, -1, -1, 0⟩]) := WayM.put hm0 WayM.nil (y := ⟨f0, -1, -1, 0⟩) (by simp) rfl
  obtain ⟨bm, hbm⟩ : ∃ z : Nat, wq3.heap.size = z := ⟨_, rfl⟩
  have hb5 : Below wq3.heap.size wq3 w5 := below_grown_b (below_new _ _) hg5 (fun j hj => by cases hj; exact Nat.le_refl _)
  have HM_a : Hid (MapW w5 bm 1 ((DataW.map []).put (.int .i64 (f0 : Int)) (wayD (-1) (-1) 0))) := by rw [← hbm]; exact hm5
  have hbmw : w.heap.size + 1 < bm := by rw [← hbm]; exact HF_3.out.lt
  rw [hbm] at hins
  clear hm0 hm5 hg5
  go_wp2_with fail
  try rw [hbm]
  have HK_4 := Lib.hid (HK_3.out.keep hb5)
  have HF_4 := Lib.hid (HF_3.out.keep hb5)
  have HQ_4 := Lib.hid (HQ_3.out.keep hb5)
  have HB_4 := Lib.hid (below_next HB_3.out hb5)
  clear hb5 HK_3 HF_3 HQ_3 HB_3 
  clear hbm hins
  have HM_4 := HM_a
  clear HM_a
  obtain ⟨w6, hw6⟩ : ∃ z : World, z = w5.alloc (.cells #[.int .i64 (f0 : Int)] 3) := ⟨_, rfl⟩
  have hb6 : Below w5.heap.size w5 w6 := by rw [hw6]; exact below_new _ _
  obtain ⟨bl, hbl⟩ : ∃ z : Nat, w5.heap.size = z := ⟨_, rfl⟩
  have hblw : w.heap.size + 1 < bl ∧ bm < bl := by rw [← hbl]; exact ⟨HF_4.out.lt, World.ownsMap.lt HM_4.out⟩
  have HO_a : Hid (Own 3 w6 bl (some ⟨bl, 0, none⟩) 1 1 ((stI [⟨f0, -1, -1, 0⟩]).map (Value.int .i64))) := by rw [hw6]; exact own_new 3 w5 bl [.int .i64 (f0 : Int)] hbl.symm (by omega) (by simp [maxLen])
  rw [← hw6]
  try rw [hbl]
  clear hw6
  have HK_5 := Lib.hid (HK_4.out.keep hb6)
  have HF_5 := Lib.hid (HF_4.out.keep hb6)
  have HQ_5 := Lib.hid (HQ_4.out.keep hb6)
  have HM_5 := Lib.hid (HM_4.out.keep hb6)
  have HB_5 := Lib.hid (below_next HB_4.out hb6)
  clear hb6 HK_4 HF_4 HQ_4 HM_4 HB_4 
  clear hbl
  have HO_5 := HO_a
  clear HO_a
  go_loopw [9, 10] (fun s9 s10 wr => ∃ (i n9 cL nD : Nat) (L : Option Addr) (W : List Wy) (D : DataW Unit), s9 = .slice L n9 cL ∧ s10 = .int .i64 i ∧ i ≤ n9 ∧ n9 ≤ 16 ∧ Hid (W.length = n9) ∧ nD ≤ 1000 * (i + 1) ∧ Hid (Bfs al f0 W i 0) ∧ Hid (∀ (j : Nat) (y : Wy), j < i → W[j]? = some y → ¬ y.s &&& g = g) ∧ Hid (Below w.heap.size w wr) ∧ Hid (Blk wr w.heap.size 25 #[.int .i64 4, .slice q.F q.nF q.cF, .slice q.G q.nG q.cG, .slice q.A q.n q.c]) ∧ Hid (Blk wr (w.heap.size + 1) 28 #[.int .i64 0, .int .i64 0]) ∧ Hid (MapW wr bm nD D) ∧ Hid (WayM D W) ∧ Hid (Own 3 wr bl L n9 cL ((stI W).map (Value.int .i64)))) (fun _ s _ => 16 - (intOf s).toNat)
  case atStart => exact ⟨0, 1, 1, 1, _, [⟨f0, -1, -1, 0⟩], _, rfl, rfl, by omega, by omega, rfl, by omega, Bfs.start al hf16, by intro j y hj; omega, HB_5, HK_5, HF_5, HM_5, HD5, HO_5⟩
  case round =>
    clear HK_5 HF_5 HM_5 HO_5 HB_5 HQ_5 HD5
    obtain ⟨i, n9, cL, nD, L, W, D, rfl, rfl, hi, hn9, HWL, hnD, HBF, HNO, HB, HK, HF, HM, HD, HO⟩ := hrel
    by_cases hlt : i < n9
    · have hil : i < W.length := by rw [HWL.out]; exact hlt
      obtain ⟨x, hxi⟩ : ∃ x, W[i]? = some x := ⟨_, List.getElem?_eq_getElem hil⟩
      have HX := Lib.hid hxi
      have hx16 := HBF.out.lt x (List.mem_of_getElem? hxi)
      have hxl := HBF.out.i_le hxi
      have hOI := HO.out.ints (xs := stI W) (fun z hz => by obtain ⟨y, hy, rfl⟩ := List.mem_map.1 hz; have := HBF.out.lt y hy; unfold I64; omega)
      obtain ⟨b, off, y, hLe, hbb, hcell, y1, y2, hy⟩ := hOI.round hlt
      obtain rfl : y = (x.s : Int) := by
        have h9 := hy.out
        unfold stI at h9
        rw [List.getElem?_map, hxi] at h9
        simpa using h9.symm
      have q0 : (0 : Int) ≤ (i : Int) := by omega
      have q1 : (i : Int) < (n9 : Int) := by omega
      have hba := and_n hx16 hg16
      have hlk := way_look HM.out HD.out (List.mem_of_getElem? hxi) hx16
      have LE : Hid (L = some ⟨b, off, none⟩) := hLe
      clear hil hxi hOI hy hbb hLe
      by_cases hgo : x.s &&& g = g
      · have HG := Lib.hid hgo
        rw [hgo] at hba
        have hmem := List.mem_of_getElem? HX.out
        have HLST : Hid (∀ p' u, walkF al p' f0 = some u → u &&& g = g → x.long ≤ p'.length) := fun p' u h1 h2 => HBF.out.least HX.out HNO.out h1 h2
        rw [LE.out]
        clear hgo hlk
        go_wp2_with fail
        refine (plan_any bm nD D W al f0 i 0 x wr HM.out HD.out HBF.out hmem (by rw [hal.out]; omega)).mono ?_
        rintro e wz ⟨P, np, cp, p, rfl, hP, hw, hpl, hbz⟩
        have HP := Lib.hid hP
        have HW := Lib.hid hw
        have HPL := Lib.hid hpl
        have HFz := Lib.hid (HF.out.keep hbz)
        have HBz := Lib.hid (below_next HB.out hbz)
        have e0 := HFz.out.cell 0
        have e1 := HFz.out.cell 1
        have g0 := HFz.out.frozen 0
        have g1 := HFz.out.frozen 1
        simp at e0 e1
        have le := HFz.out.lt
        have hPz : Ints ((wz.setCell ⟨w.heap.size + 1, 0, none⟩ (.int .i64 0)).setCell ⟨w.heap.size + 1, 1, none⟩ (.int .i64 0)) P np cp (natI p) := ints_put2 hP HFz.out
        have HPZ := Lib.hid hPz
        clear hP hw hpl hbz hPz HK HM HO HF HB
        go_wp2_with fail
        exact bodyPost_ret (v := .tuple #[.int .i64 1, .slice P np cp, .agg #[.int .i64 0, .int .i64 0]]) (by simp [results, Try.results5, go_sem, e0, e1, le]) rfl ⟨1, P, np, cp, rfl, below_put2 HBz.out (g := w.heap.size + 1) (Nat.le_succ _) _ _, .inl ⟨rfl, p, x.s, HPZ.out, HW.out, HG.out, by rw [HPL.out]; omega, fun p' u h1 h2 => by rw [HPL.out]; exact HLST.out p' u h1 h2⟩⟩
      · have hne : ((((x.s &&& g : Nat) : Int)) == ((g : Nat) : Int)) = false := by rw [beq_eq_false_iff_ne]; omega
        obtain ⟨x1, hx1⟩ : ∃ x1 : Int, ((x.s &&& g : Nat) : Int) = x1 := ⟨_, rfl⟩
        rw [hx1] at hba hne
        have HNG := Lib.hid hgo
        have dl : ((x.long : Int) == 20) = false := by rw [beq_eq_false_iff_ne]; omega
        have k0 := HK.out.cell 0
        have k3 := HK.out.cell 3
        have k4 := HK.out.lt
        simp at k0 k3
        rw [LE.out]
        clear hgo hx1
        go_wp2_with fail
        obtain ⟨wo, hwo⟩ : ∃ z : World, z = wr := ⟨_, rfl⟩
        subst hwo
        go_loopw [9, 63] (fun s9 s63 wr => ∃ (k n9 cL nD : Nat) (L : Option Addr) (W : List Wy) (D : DataW Unit), s9 = .slice L n9 cL ∧ s63 = .int .i64 k ∧ k ≤ q.n ∧ i < n9 ∧ n9 ≤ 16 ∧ Hid (W.length = n9) ∧ nD ≤ 1000 * (i + 1) + k ∧ Hid (Bfs al f0 W i k) ∧ Hid (W[i]? = some x) ∧ Hid (∀ (j : Nat) (y : Wy), j < i → W[j]? = some y → ¬ y.s &&& g = g) ∧ Hid (Below w.heap.size w wr) ∧ Hid (Blk wr w.heap.size 25 #[.int .i64 4, .slice q.F q.nF q.cF, .slice q.G q.nG q.cG, .slice q.A q.n q.c]) ∧ Hid (Blk wr (w.heap.size + 1) 28 #[.int .i64 0, .int .i64 0]) ∧ Hid (MapW wr bm nD D) ∧ Hid (WayM D W) ∧ Hid (Own 3 wr bl L n9 cL ((stI W).map (Value.int .i64)))) (fun _ s _ => q.n - (intOf s).toNat)
        case atStart => exact ⟨0, n9, cL, nD, L, W, D, by rw [LE.out], rfl, Nat.zero_le _, hlt, hn9, HWL, by omega, HBF, HX, HNO, HB, HK, HF, HM, HD, HO⟩
        case round =>
          clear HB HK HF HM HD HO HBF HX HNO HWL k0 k3 k4 hlk hcell LE
          obtain ⟨k, n9, cL, nD, L, W, D, rfl, rfl, hk, hin, hn9, HWL, hnD, HBF, HX, HNO, HB, HK, HF, HM, HD, HO⟩ := hrel
          by_cases hlt2 : k < q.n
          · have HR := Lib.hid (H.out.keep HB.out)
            have hkal : k < al.length := by rw [hal.out]; exact hlt2
            have hka : al[k]? = some (acAt al k) := by unfold acAt; rw [List.getD_eq_getElem?_getD, List.getElem?_eq_getElem hkal]; rfl
            obtain ⟨a, ha⟩ : ∃ a, acAt al k = a := ⟨_, rfl⟩
            rw [ha] at hka
            obtain ⟨b2, v, hAe, hat⟩ := HR.out.acts.2 k a hka
            have HOK := Lib.hid (H.out.ok a (List.mem_of_getElem? hka))
            have HAT := Lib.hid hat
            have HAA := Lib.hid ha
            have hmx : x ∈ W := List.mem_of_getElem? HX.out
            have HMX := Lib.hid hmx
            have c0 := hat.k0
            have c1 := hat.k1
            have c2 := hat.k2
            have c3 := hat.k3
            have c4 := (cell_lt c0).1
            have q0 : (0 : Int) ≤ (k : Int) := by omega
            have q1 : (k : Int) < (q.n : Int) := by omega
            rw [hAe] at HK ⊢
            have k0 := HK.out.cell 0
            have k3 := HK.out.cell 3
            have k4 := HK.out.lt
            simp at k0 k3
            clear hat ha hka HR hmx
            go_wp2_with fail
            obtain ⟨w7, hw7⟩ : ∃ z : World, z = wr.alloc (.cells #[.slice v.A1 v.n1 v.c1, .slice v.A2 v.n2 v.c2, .slice v.A3 v.n3 v.c3, .slice v.A4 v.n4 v.c4] 58) := ⟨_, rfl⟩
            have hb7 : Below wr.heap.size wr w7 := by rw [hw7]; exact below_new _ _
            rw [← hw7]
            clear hw7 c0 c1 c2 c3 c4 k0 k3 k4
            have HK_0 := Lib.hid (HK.out.keep hb7)
            have HF_0 := Lib.hid (HF.out.keep hb7)
            have HM_0 := Lib.hid (HM.out.keep hb7)
            have HO_0 := Lib.hid (HO.out.keep hb7)
            have HAT_0 := Lib.hid (HAT.out.keep hb7)
            have HB_0 := Lib.hid (below_next HB.out hb7)
            clear hb7 HK HF HM HO HAT HB 
            rcases hap0 : appF a x.s with _ | s2
            · have hap := Lib.hid hap0
              clear hap0
              skip
              refine (apply_none v a x.s w7 HAT_0.out.i0 HAT_0.out.i1 HAT_0.out.i2 HAT_0.out.i3 HOK.out hx16 hap.out).mono ?_
              rintro e wq1 ⟨rfl, hbq⟩
              have HK_1 := Lib.hid (HK_0.out.keep hbq)
              have HF_1 := Lib.hid (HF_0.out.keep hbq)
              have HM_1 := Lib.hid (HM_0.out.keep hbq)
              have HO_1 := Lib.hid (HO_0.out.keep hbq)
              have HAT_1 := Lib.hid (HAT_0.out.keep hbq)
              have HB_1 := Lib.hid (below_next HB_0.out hbq)
              clear hbq HK_0 HF_0 HM_0 HO_0 HAT_0 HB_0 
              obtain ⟨a1, a2, a3, ok, hlo, hok⟩ := way_look_ok HM_1.out HD.out 0 (by unfold I64; omega)
              go_wp2_with fail
              obtain ⟨w8, hw8⟩ : ∃ z : World, z = wq1.alloc (.cells #[.int .i64 a1, .int .i64 a2, .int .i64 a3] 62) := ⟨_, rfl⟩
              have hb8 : Below wq1.heap.size wq1 w8 := by rw [hw8]; exact below_new _ _
              rw [← hw8]
              clear hw8 hlo hok
              have HK_2 := Lib.hid (HK_1.out.keep hb8)
              have HF_2 := Lib.hid (HF_1.out.keep hb8)
              have HM_2 := Lib.hid (HM_1.out.keep hb8)
              have HO_2 := Lib.hid (HO_1.out.keep hb8)
              have HAT_2 := Lib.hid (HAT_1.out.keep hb8)
              have HB_2 := Lib.hid (below_next HB_1.out hb8)
              clear hb8 HK_1 HF_1 HM_1 HO_1 HAT_1 HB_1 
              have HBF2 : Hid (Bfs al f0 W i (k + 1)) := HBF.out.skip HX.out (fun s' hs' => by rw [HAA.out, hap.out] at hs'; cases hs')
              go_wp2_with fail
              go_roundw
              case rel => exact ⟨k + 1, n9, cL, nD, L, W, D, rfl, by go_num, by omega, hin, hn9, HWL, by omega, HBF2, HX, HNO, HB_2, HK_2, HF_2, HM_2, HD, HO_2⟩
              case measure => simp [intOf] <;> omega
            · have hap := Lib.hid hap0
              clear hap0
              have hs216 := app_lt HOK.out hx16 hap.out
              skip
              refine (apply_some v a x.s s2 w7 HAT_0.out.i0 HAT_0.out.i1 HAT_0.out.i2 HAT_0.out.i3 HOK.out hx16 hap.out).mono ?_
              rintro e wq1 ⟨rfl, hbq⟩
              have HK_1 := Lib.hid (HK_0.out.keep hbq)
              have HF_1 := Lib.hid (HF_0.out.keep hbq)
              have HM_1 := Lib.hid (HM_0.out.keep hbq)
              have HO_1 := Lib.hid (HO_0.out.keep hbq)
              have HAT_1 := Lib.hid (HAT_0.out.keep hbq)
              have HB_1 := Lib.hid (below_next HB_0.out hbq)
              clear hbq HK_0 HF_0 HM_0 HO_0 HAT_0 HB_0 
              obtain ⟨a1, a2, a3, ok, hlo, hok⟩ := way_look_ok HM_1.out HD.out (s2 : Int) (by unfold I64; omega)
              have HLO := Lib.hid hok
              clear hok
              rcases Bool.eq_false_or_eq_true ok with hok0 | hok0
              · subst hok0
                go_wp2_with fail
                obtain ⟨w8, hw8⟩ : ∃ z : World, z = wq1.alloc (.cells #[.int .i64 a1, .int .i64 a2, .int .i64 a3] 62) := ⟨_, rfl⟩
                have hb8 : Below wq1.heap.size wq1 w8 := by rw [hw8]; exact below_new _ _
                rw [← hw8]
                clear hw8 hlo
                have HK_2 := Lib.hid (HK_1.out.keep hb8)
                have HF_2 := Lib.hid (HF_1.out.keep hb8)
                have HM_2 := Lib.hid (HM_1.out.keep hb8)
                have HO_2 := Lib.hid (HO_1.out.keep hb8)
                have HAT_2 := Lib.hid (HAT_1.out.keep hb8)
                have HB_2 := Lib.hid (below_next HB_1.out hb8)
                clear hb8 HK_1 HF_1 HM_1 HO_1 HAT_1 HB_1 
                have HBF2 : Hid (Bfs al f0 W i (k + 1)) := HBF.out.skip HX.out (fun s' hs' => by
                  rw [HAA.out, hap.out] at hs'
                  cases hs'
                  obtain ⟨y, hy, e9⟩ := HLO.out.1 (by first | rfl | trivial)
                  exact ⟨y, hy, by omega⟩)
                go_wp2_with fail
                go_roundw
                case rel => exact ⟨k + 1, n9, cL, nD, L, W, D, rfl, by go_num, by omega, hin, hn9, HWL, by omega, HBF2, HX, HNO, HB_2, HK_2, HF_2, HM_2, HD, HO_2⟩
                case measure => simp [intOf] <;> omega
              · subst hok0
                have hb8 := below_new wq1 (.cells #[.int .i64 a1, .int .i64 a2, .int .i64 a3] 62)
                have HK_2 := Lib.hid (HK_1.out.keep hb8)
                have HF_2 := Lib.hid (HF_1.out.keep hb8)
                have HM_2 := Lib.hid (HM_1.out.keep hb8)
                have HO_2 := Lib.hid (HO_1.out.keep hb8)
                have HAT_2 := Lib.hid (HAT_1.out.keep hb8)
                have HB_2 := Lib.hid (below_next HB_1.out hb8)
                clear hb8 HK_1 HF_1 HM_1 HO_1 HAT_1 HB_1 
                have hlk := way_look HM_2.out HD.out HMX.out hx16
                have hnew : ∀ z ∈ W, z.s ≠ s2 := fun z hz e9 => by have := HLO.out.2 ⟨z, hz, by rw [e9]⟩; cases this
                have HBF2 : Hid (Bfs al f0 (W ++ [⟨s2, (x.s : Int), (k : Int), x.long + 1⟩]) i (k + 1)) := HBF.out.push HX.out hs216 (by rw [HAA.out]; exact hap.out) hkal hnew
                have HX2 : Hid ((W ++ [(⟨s2, (x.s : Int), (k : Int), x.long + 1⟩ : Wy)])[i]? = some x) := by show _ = _; rw [List.getElem?_append_left (by rw [HWL.out]; exact hin)]; exact HX.out
                have HNO2 : Hid (∀ (j : Nat) (y : Wy), j < i → (W ++ [(⟨s2, (x.s : Int), (k : Int), x.long + 1⟩ : Wy)])[j]? = some y → ¬ y.s &&& g = g) := fun j y hj hy => by rw [List.getElem?_append_left (by rw [HWL.out]; omega)] at hy; exact HNO.out j y hj hy
                have HWL2 : Hid ((W ++ [(⟨s2, (x.s : Int), (k : Int), x.long + 1⟩ : Wy)]).length = n9 + 1) := by show _ = _; rw [List.length_append, HWL.out]; rfl
                have hn17 : n9 + 1 ≤ 16 := by have h9 := HBF2.out.len; rw [HWL2.out] at h9; exact h9
                have HD2 : Hid (WayM (D.put (.int .i64 (s2 : Int)) (wayD (x.s : Int) (k : Int) ((x.long + 1 : Nat) : Int))) (W ++ [⟨s2, (x.s : Int), (k : Int), x.long + 1⟩])) := WayM.put HM_2.out HD.out (y := ⟨s2, (x.s : Int), (k : Int), x.long + 1⟩) hnew rfl
                clear hnew
                go_wp2_with (first
                  | (at_mapUpdate
                     refine wpList_mapUpdate_own _ rfl _ _ _ 63 rfl 3 62 keyed_int_w Try.underlying63 wayR bm nD D rfl HM_2.out (by unfold maxLen; omega) _ _ _ rfl rfl (key_w (s2 : Int) (by unfold I64; omega)) _ [] (wayR_mk _ _ _) ?_
                     intro w9 hm9 hg9
                     have HM9 : Hid (MapW w9 bm (nD + 1) (D.put (.int .i64 (s2 : Int)) (wayD (x.s : Int) (k : Int) ((x.long + 1 : Nat) : Int)))) := hm9
                     have HB9 : Hid (Below w.heap.size w w9) := HB_2.out.grown hg9 HB_2.out.size (fun j hj => by cases hj; omega)
                     have HK9 := Lib.hid (HK_2.out.grown hg9 (by simp; omega))
                     have HF9 := Lib.hid (HF_2.out.grown hg9 (by simp; omega))
                     have HO9 : Hid (Own 3 w9 bl L n9 cL ((stI W).map (Value.int .i64))) := HO_2.out.kept hg9 (own_far HO_2.out (by omega))
                     have hsz9 := HB9.out.size
                     have hb9 := below_new w9 (.cells #[.int .i64 (s2 : Int)] 3)
                     have HMa := Lib.hid (HM9.out.keep hb9)
                     have HBa := Lib.hid (below_next HB9.out hb9)
                     have HKa := Lib.hid (HK9.out.keep hb9)
                     have HFa := Lib.hid (HF9.out.keep hb9)
                     have HOa := Lib.hid (HO9.out.keep hb9)
                     have HSL := Lib.hid (sl_one w9 3 (.int .i64 (s2 : Int)) rfl)
                     have hbl9 : bl ≤ w9.heap.size := own_size HO9.out (by omega)
                     clear hm9 hg9 hb9 HM9 HB9 HK9 HF9 HO9)
                  | (at_builtin
                     refine wpList_append_sl _ rfl (.tmp 95) (.tmp 97) _ rfl bl 3 i0 _ 8 Try.underlying22 hi0 hz0 hz1 hz2 rfl L n9 cL _ rfl HOa.out (some ⟨w9.heap.size, 0, none⟩) 1 1 _ rfl HSL.out (by simp [Value.oneCell']) (by simp only [maxLen]; omega) (by omega) (by simp; omega) ?_
                     intro L1 c1 w10 hL1 hg1 hat1
                     have HL1 : Hid (Own 3 w10 bl L1 (n9 + 1) c1 ((stI (W ++ [⟨s2, (x.s : Int), (k : Int), x.long + 1⟩])).map (Value.int .i64))) := by unfold stI; rw [List.map_append, List.map_append]; exact hL1
                     have hnb : ∀ z, z < bl → some z ≠ blockOf L := fun z hz e => by have := own_base_p HOa.out e.symm; omega
                     have HMb := Lib.hid (HMa.out.kept hg1 (hnb bm (by omega)))
                     have HKb := Lib.hid (HKa.out.grown hg1 (hnb _ (by omega)))
                     have HFb := Lib.hid (HFa.out.grown hg1 (hnb _ (by omega)))
                     have HBb : Hid (Below w.heap.size w w10) := HBa.out.grown hg1 HBa.out.size (fun j hj => by have := own_base_p HOa.out hj; omega)
                     clear hL1 hg1 hat1 hnb HMa HBa HKa HFa HOa))
                go_roundw
                case rel => exact ⟨k + 1, n9 + 1, c1, nD + 1, L1, _, _, rfl, by go_num, by omega, by omega, hn17, HWL2, by omega, HBF2, HX2, HNO2, HBb, HKb, HFb, HMb, HD2, HL1⟩
                case measure => simp [intOf] <;> omega
          · have q1 : ¬ (k : Int) < (q.n : Int) := by omega
            obtain rfl : k = al.length := by rw [hal.out]; omega
            have HBF2 := Lib.hid HBF.out.next
            have HNO2 : Hid (∀ (j : Nat) (y : Wy), j < i + 1 → W[j]? = some y → ¬ y.s &&& g = g) := fun j y hj hy => by
              rcases Nat.lt_succ_iff_lt_or_eq.1 hj with h9 | rfl
              · exact HNO.out j y h9 hy
              · rw [HX.out] at hy; cases hy; exact HNG.out
            go_wp2_with fail
            go_roundw
            case rel => exact ⟨i + 1, n9, cL, nD, L, W, D, rfl, by go_num, by omega, hn9, HWL, by omega, HBF2, HNO2, HB, HK, HF, HM, HD, HO⟩
            case measure => simp [intOf] <;> omega
    · have q1 : ¬ (i : Int) < (n9 : Int) := by omega
      have HALL : Hid (∀ y ∈ W, ¬ y.s &&& g = g) := fun y hy => by
        obtain ⟨j, hj, ej⟩ := List.getElem_of_mem hy
        rw [HWL.out] at hj
        exact HNO.out j y (by omega) (by rw [← ej]; exact List.getElem?_eq_getElem (by rw [HWL.out]; exact hj))
      have HNONE : Hid (∀ p' u, walkF al p' f0 = some u → ¬ u &&& g = g) := fun p' u h1 => HBF.out.no (by rw [HWL.out]; omega) HALL.out h1
      have e0 := HF.out.cell 0
      have e1 := HF.out.cell 1
      have g0 := HF.out.frozen 0
      have g1 := HF.out.frozen 1
      simp at e0 e1
      have le := HF.out.lt
      go_wp2_with fail
      exact bodyPost_ret (v := .tuple #[.int .i64 2, .slice none 0 0, .agg #[.int .i64 0, .int .i64 0]]) (by simp [results, Try.results5, go_sem, e0, e1, le]) rfl ⟨2, none, 0, 0, rfl, below_put2 HB.out (g := w.heap.size + 1) (Nat.le_succ _) _ _, .inr ⟨rfl, HNONE.out⟩⟩
end Go.Proofs.Ytlfgcblijfflfaa
