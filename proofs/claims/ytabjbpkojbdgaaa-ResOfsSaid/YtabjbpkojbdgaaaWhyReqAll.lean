/- WhyReqAll: the texts TrimFn, WhyFn, Why, TrimReq in one. -/
import Derived.Test.YtabjbpkojbdgaaaTrimPlain
import Derived.Test.YtabjbpkojbdgaaaUnitRun
import Derived.Test.YtabjbpkojbdgaaaSnocG
import Derived.StillTailTactics
import Derived.Test.YtabjbpkojbdgaaaStepPlain
import Derived.Test.YtabjbpkojbdgaaaSorted
import Derived.Test.YtabjbpkojbdgaaaNormA
import Derived.Test.YtabjbpkojbdgaaaRowFn
import Derived.Deep.RegionHeld3
import Derived.Test.YtabjbpkojbdgaaaStepChk
import Derived.Test.YtabjbpkojbdgaaaDeleteL
/- Contracts of trim's causes: the clauses that make a clause fall. -/
namespace Go.Proofs.Ytabjbpkojbdgaaa
open Go.RowKit Go.Maps Go.WideMaps
set_option linter.unusedSimpArgs false

theorem grown_trans {w1 w2 w3 : World} {row : Option Nat} (h : w1.grownBy w2 row) (h' : w2.grownBy w3 row) : w1.grownBy w3 row :=
  ⟨h'.1.trans h.1, h'.2.trans h.2, h'.3.trans h.3, Nat.le_trans h.size h'.size, fun k hk hr => (h'.block k (Nat.lt_of_lt_of_le hk h.size) hr).trans (h.block k hk hr)⟩
theorem grown_below {w1 w2 : World} {row : Option Nat} (h : Below w1.heap.size w1 w2) : w1.grownBy w2 row :=
  ⟨h.1, h.2, h.3, h.size, fun k hk _ => h.block k hk⟩
theorem MapI.kept {w w' : World} {b n : Nat} {D : DataW Unit} {row : Option Nat} (h : MapI w b n D) (hg : w.grownBy w' row) (hne : some b ≠ row) : MapI w' b n D := by
  have hlt := World.ownsMap.lt h
  obtain ⟨es, clock, h1, F, hs, hD⟩ := h
  exact ⟨es, clock, (hg.block b hlt hne).trans h1, F, hs, hD⟩
theorem var_still (x : Int) (w : World) (h1 : -9223372036854775807 ≤ x) (h2 : x ≤ 9223372036854775807) : Calls Try.prog 100 #[.int .i64 x] w (fun e w' => e = .returned (.int .i64 x.natAbs) ∧ w' = w) := by
  go_enter Try.func100, Try.ntmps100
  go_wp2_with fail
  all_goals
    go_ret
    exact ⟨congrArg Ending.returned (by show Value.int _ _ = Value.int _ _; congr 1; omega), rfl⟩
/-- The variables of literals. -/
def absL (xs : List Int) : List Int := xs.map (fun x => (x.natAbs : Int))
def RetNote (gm k : Nat) (zs xs : List Int) (W : World) (e : Ending) (w' : World) : Prop :=
  e = .returned (.tuple #[]) ∧ ∃ k' D', k' ≤ k + xs.length ∧ MapI w' gm k' D' ∧ MapHas D' (zs ++ absL xs) ∧ W.grownBy w' (some gm)

set_option maxHeartbeats 2000000 in
set_option maxRecDepth 100000 in
theorem note_any (W0 W : World) (b2 b9 gm k : Nat) (A : Option Addr) (n c : Nat) (row : List (List Int)) (D : DataW Unit) (zs xs : List Int) (j : Nat) (hg : Grid W0 A n c row) (h2 : W0.cell? ⟨b2, 0, none⟩ = some (.slice A n c)) (hbw : Below W0.heap.size W0 W) (hgm : W0.heap.size ≤ gm)
    (h9 : Blk W b9 88 #[.map (some gm)]) (hm : MapI W gm k D) (hD : MapHas D zs) (hx : Hid (row[j]? = some xs)) (hb : ∀ x ∈ xs, -1000000 ≤ x ∧ x ≤ 1000000) (hk : k + xs.length ≤ 100000000) :
    Calls Try.prog 106 #[.int .i64 j, .pointer (some ⟨b2, 0, none⟩), .pointer (some ⟨b9, 0, none⟩)] W (RetNote gm k zs xs W) := by
  have hjn : j < n := by rw [← hg.len]; exact (List.getElem?_eq_some_iff.1 hx.out).1
  obtain ⟨b3, off3, A3, n3, c3, xs3, hA3, hb3, hcell3, hx3, hxk3⟩ := hg.round hjn
  obtain rfl : xs = xs3 := by have := hxk3.out; rw [hx.out] at this; injection this
  have hlen3 : Hid (xs.length = n3) := hx3.len
  have HX3 := Lib.hid hx3
  have HBW := Lib.hid hbw
  have HBX := Lib.hid hb
  have H9 := Lib.hid h9
  have HM := Lib.hid hm
  have HD := Lib.hid hD
  have hne9 : b9 ≠ gm := blk_map_ne h9 hm
  have e2 := keepBox hbw h2
  have e3 := keepBox hbw hcell3
  have z2 := (cell_lt e2).1
  have z3 := (cell_lt e3).1
  have hn3b : n3 ≤ 100000000 := by rw [← hx3.len]; omega
  subst hA3
  have u1 : (0 : Int) ≤ (j : Int) := by omega
  have u2 : (j : Int) < (n : Int) := by omega
  clear hg h2 hbw hx hb hxk3 hx3 hcell3 h9 hm hD
  go_enter Try.func106, Try.ntmps106
  go_wp2_with fail
  go_loopw [11] (fun i wr => ∃ (q k' : Nat) (D' : DataW Unit), q ≤ n3 ∧ k' ≤ k + q ∧ i = .int .i64 q ∧ Hid (MapI wr gm k' D') ∧ Hid (MapHas D' (zs ++ absL (xs.take q))) ∧ Hid (W.grownBy wr (some gm))) (fun i _ => n3 - (intOf i).toNat)
  case atStart => exact ⟨0, k, D, Nat.zero_le _, by omega, rfl, HM, by simpa [absL, Hid] using HD.out, World.grownBy.refl _ _⟩
  case round =>
    obtain ⟨q, k', D', hq, hk', rfl, hM, hDD, hG⟩ := hrel
    by_cases hqn : q < n3
    · have HBR : Hid (Below W0.heap.size W0 wr) := HBW.out.grown hG.out HBW.out.size (fun g hg => by cases hg; exact hgm)
      have K9 := Lib.hid (H9.out.grown hG.out (by intro e; injection e with e; exact hne9 e))
      obtain ⟨b5, off5, x, hAe, hbb, hcell5, x1, x2, hxk⟩ := (HX3.out.keep HBR.out).round hqn
      have hxb := HBX.out x (List.mem_of_getElem? hxk.out)
      subst hAe
      have hkey := keyOf_int_mk (P := Try.prog) Try.underlying3 (show (Lit.int .i64 (x.natAbs : Int)).wf = true from WalkArith.wf_i64 (by omega))
      go_wp2_with fail
      refine wp_region_still_tail 3 (by kernel_rfl) (by kernel_rfl) ?_
      obtain ⟨wd, hwd⟩ : ∃ wd : World, wd = wr.drew := ⟨_, rfl⟩
      have hbd : Below wr.heap.size wr wd := by rw [hwd]; exact below_drewN _ 1
      have hMd := hM.out.keep hbd
      have e9 := (K9.out.keep hbd).cell 0
      simp at e9
      have HGd := Lib.hid (grown_trans hG.out (grown_below hbd))
      change wpStill _ _ wr.drew (fun a' => wpList _ _ _ _ a' wr.drew) _ _
      rw [← hwd]
      clear hwd hbd
      simp only [List.take_succ_cons, List.take_zero, List.drop_succ_cons, List.drop_zero]
      still_step
      still_step
      still_call (var_still x _ (by omega) (by omega))
      refine wpStill_nil ?_
      go_wp2_with (first | (at_mapUpdate; refine wpList_mapUpdate_own _ rfl _ _ _ 88 rfl 3 4 keyed_int Try.underlying88 (plainElem (H := Unit) Try.prog 4) gm k' D' rfl hMd (by unfold maxLen; omega) _ _ _ rfl rfl hkey _ [] (plainElem_bool Try.underlying4 true) ?_; intro w5 hown1 hgrow1))
      go_roundw
      case rel =>
        refine ⟨q + 1, k' + 1, _, by omega, by omega, by go_num, hown1, ?_, grown_trans HGd.out hgrow1⟩
        have := MapHas.put hM.out hDD.out (x.natAbs : Int)
        rw [Hid, take_snoc_of hxk.out, absL, List.map_append, ← List.append_assoc]
        exact this
      case measure => simp [intOf] <;> omega
    · have hfin : Hid (MapHas D' (zs ++ absL xs)) := by have := hDD.out; rw [List.take_of_length_le (by rw [hlen3.out]; omega)] at this; exact this
      go_wp2_with fail
      go_end0
      exact ⟨rfl, k', D', by rw [hlen3.out]; omega, hM.out, hfin.out, hG.out⟩

/-- The variables of the clauses out. -/
def varsL (row : List (List Int)) (out : List Int) : List Int := out.flatMap (fun j => absL (row.getD j.toNat []))
theorem absL_has (xs : List Int) (x : Int) : hasB (absL xs) (x.natAbs : Int) = xs.any (fun u => u.natAbs == x.natAbs) := by
  rw [Bool.eq_iff_iff, hasB_iff, List.any_eq_true]
  unfold absL
  rw [List.mem_map]
  exact ⟨fun ⟨u, hu, e⟩ => ⟨u, hu, by simp; omega⟩, fun ⟨u, hu, e⟩ => ⟨u, hu, by simp at e; omega⟩⟩
theorem varsL_noted (row : List (List Int)) (out : List Int) (x : Int) : hasB (varsL row out) (x.natAbs : Int) = notedB row out x := by
  unfold varsL notedB
  induction out with
  | nil => rfl
  | cons j r ih => rw [List.flatMap_cons, hasB_append, ih, List.any_cons, absL_has]
theorem varsL_snoc (row : List (List Int)) (out : List Int) (j : Int) : varsL row (out ++ [j]) = varsL row out ++ absL (row.getD j.toNat []) := by
  unfold varsL
  rw [List.flatMap_append]
  simp

set_option maxHeartbeats 8000000 in
set_option maxRecDepth 100000 in
theorem causes_any (W : World) (A : Option Addr) (n c : Nat) (row : List (List Int)) (i : Nat) (vars : Int) (hg : Grid W A n c row) (hi : i < n) (v0 : 0 ≤ vars) (v1 : vars ≤ 1000) (hc : ∀ x ∈ row, Lits vars x) (hn : n ≤ 1000000) (R : List Int) (hR : Hid (causesF vars row i = R)) :
    Calls Try.prog 89 #[.slice A n c, .int .i64 i] W (RetInts R W) := by
  obtain ⟨w0, hw0⟩ : ∃ w0 : World, w0 = W.alloc (.cells #[.slice A n c] 22) := ⟨_, rfl⟩
  have HB0 : Hid (Below W.heap.size W w0) := by rw [hw0]; exact below_new _ _
  have K2 : Hid (Blk w0 W.heap.size 22 #[.slice A n c]) := by rw [hw0]; exact Blk.new _ _ _
  have HW0 := Lib.hid hw0
  have G0 := Lib.hid (hg.keep HB0.out)
  obtain ⟨b1, off1, A1, n1, c1, xs, hA1, hb1, hcell1, hx1, hxk1⟩ := hg.round hi
  have hrow : Hid (row.getD i [] = xs) := by rw [List.getD_eq_getElem?_getD, hxk1.out]; rfl
  have HXL : Hid (Lits vars xs) := hc xs (List.mem_of_getElem? hxk1.out)
  have HX1 := Lib.hid (hx1.keep HB0.out)
  have HC := Lib.hid hc
  have HXB : Hid (∀ x ∈ xs, -1000000 ≤ x ∧ x ≤ 1000000) := fun x hx => by have := HXL.out.1 x hx; omega
  have hn1 : n1 ≤ 1000000 := by have := HXL.out.len_le v0; rw [hx1.len] at this; omega
  have hbd := hg.bd
  have k2 := K2.out.cell 0
  simp at k2
  have z2 := K2.out.lt
  obtain ⟨t, y, a, hta⟩ : ∃ t y a, Hid (askF vars (row.take i) (negF xs) = (t, y, a)) := ⟨_, _, _, rfl⟩
  have HTK : Hid (∀ x ∈ row.take i, Lits vars x) := fun x hx => HC.out x (List.mem_of_mem_take hx)
  have v6 : vars ≤ 1000000 := by omega
  have HOK := Lib.hid (runF_ok v0 HTK.out (vars.toNat + 1) (negF xs) ((negF xs).map fun _ => -1) HXL.out.neg (by omega))
  have HCL := Lib.hid (causes_lt v0 HC.out (i := i) (by rw [hg.len]; exact hi))
  have HHT : Hid (Lits vars t ∧ y.length = t.length ∧ ((∀ k ∈ y, -1 ≤ k ∧ k < (row.take i).length)) ∧ (0 ≤ a → a < (row.take i).length) ∧ (a = -1 ∨ 0 ≤ a)) := by
    have ok := HOK.out
    have h9 := hta.out
    unfold askF at h9
    rw [h9] at ok
    exact ⟨ok.lits, ok.same (by simp), ok.why (fun k hk => by rw [List.mem_map] at hk; obtain ⟨_, _, rfl⟩ := hk; omega), ok.bad, ok.at_⟩
  have hti : (row.take i).length = i := by rw [List.length_take, hg.len]; omega
  rw [hti] at HHT
  have HRC : Hid ((if a < 0 then [] else cauF row t y t.length [a]) = R) := by have := hR.out; rw [causesF, hrow.out, hta.out] at this; exact this
  subst hA1
  have u1 : (0 : Int) ≤ (i : Int) := by omega
  have u2 : (i : Int) < (n : Int) := by omega
  have u3 : (i : Int) ≤ (c : Int) := by omega
  have u4 : ¬ (c : Int) < (i : Int) := by omega
  clear hw0 hx1 hxk1 hc hg hR HOK hti
  go_enter Try.func89, Try.ntmps89
  go_wp2_with fail
  rw [← HW0.out]
  refine (negated_any _ _ _ xs w0 HX1.out HXB.out hn1).mono ?_
  rintro e w1 ⟨L1, nL, cL, rfl, hown1, hb1'⟩
  have HI1 := Lib.hid (hown1.ints (negF_i64 v6 HXL.out))
  have G1 := Lib.hid ((G0.out.keep hb1').take (k := i) (by omega))
  have HB1 := Lib.hid (below_next HB0.out hb1')
  have HB01 := Lib.hid hb1'
  clear k2 z2 hcell1
  have k2 := keepBox hb1' (K2.out.cell 0)
  simp at k2
  have z2 := (cell_lt k2).1
  clear hown1 hb1'
  go_wp2_with fail
  refine (assume_any _ _ _ _ _ _ (row.take i) (negF xs) vars w1 G1.out HI1.out v0 v6 HTK.out HXL.out.neg t y a hta).mono ?_
  rintro e w2 ⟨g, gm, L, cl, Y, cy, D, rfl, hst⟩
  have HST := Lib.hid hst
  have HB2 := Lib.hid (below_next HB1.out hst.bl)
  have HB02 := Lib.hid (below_next HB01.out hst.bl)
  have HTI : Hid (∀ x ∈ t, I64 x) := fun x hx => by have := HHT.out.1.1 x hx; unfold I64; omega
  have HYI : Hid (∀ x ∈ y, I64 x) := fun x hx => by have := HHT.out.2.2.1 x hx; unfold I64; omega
  clear hst HB1 k2 z2
  by_cases ha : a < 0
  · obtain rfl : [] = R := by have := HRC.out; rw [if_pos ha] at this; exact this
    go_wp2_with fail
    go_ret
    exact ⟨none, 0, 0, rfl, Own.nil _ _ _, HB2.out⟩
  obtain ⟨aN, rfl⟩ : ∃ aN : Nat, a = (aN : Int) := ⟨a.toNat, by omega⟩
  have dan : decide ((aN : Int) < 0) = false := decide_eq_false (by omega)
  have haN : aN < i := by have := HHT.out.2.2.2.1 (by omega); omega
  have HRC2 : Hid (cauF row t y t.length [(aN : Int)] = R) := by have := HRC.out; rw [if_neg ha] at this; exact this
  obtain ⟨xa, hxa⟩ : ∃ xa, Hid (row[aN]? = some xa) := ⟨_, List.getElem?_eq_getElem (by rw [G0.out.len]; omega)⟩
  have HXA : Hid (Lits vars xa) := HC.out _ (List.mem_of_getElem? hxa.out)
  have hxal : xa.length ≤ 1000 := by have := HXA.out.len_le v0; omega
  have HTL : Hid (t.length ≤ 1000) := by have := HHT.out.1.len_le v0; show _ ≤ _; omega
  have hmm := @run_makeMap Try.prog
  obtain ⟨i0, hi0, hz0, hz1, hz2⟩ := info_parts int_info
  go_wp2_with fail
  obtain ⟨w3, hw3⟩ : ∃ w3 : World, w3 = ((w2.alloc (.cells #[.int .i64 (aN : Int)] 3)).alloc (.map #[] 0)).alloc (.cells #[.map (some (w2.heap.size + 1))] 88) := ⟨_, rfl⟩
  have hb23 : Below w2.heap.size w2 w3 := by rw [hw3]; exact below_alloc (below_alloc (below_new _ _) _) _
  have OO : Hid (Own 3 w3 w2.heap.size (some ⟨w2.heap.size, 0, none⟩) 1 1 ([(aN : Int)].map (Value.int .i64))) := by
    rw [hw3]
    have := own_new 3 w2 w2.heap.size ([(aN : Int)].map (Value.int .i64)) (b := w2.heap.size) rfl (Nat.le_refl _) (by simp [maxLen])
    exact (this.keep (below_new _ _)).keep (below_new _ _)
  have MM : Hid (MapI w3 (w2.heap.size + 1) 0 (.map [])) := by
    rw [hw3]
    have := World.ownsMap_made (H := Unit) (w2.alloc (.cells #[.int .i64 (aN : Int)] 3)) Try.prog 3 (plainElem Try.prog 4)
    have h2 : MapI ((w2.alloc (.cells #[.int .i64 (aN : Int)] 3)).alloc (.map #[] 0)) (w2.heap.size + 1) 0 (.map []) := by simpa [MapI] using this
    exact h2.keep (below_new _ _)
  have K9 : Hid (Blk w3 (w2.heap.size + 1 + 1) 88 #[.map (some (w2.heap.size + 1))]) := by
    rw [hw3]
    have := Blk.new ((w2.alloc (.cells #[.int .i64 (aN : Int)] 3)).alloc (.map #[] 0)) 88 #[.map (some (w2.heap.size + 1))]
    simpa [Hid] using this
  rw [← hw3]
  obtain ⟨gm2, hgm2⟩ : ∃ q, q = w2.heap.size + 1 := ⟨_, rfl⟩
  obtain ⟨b9, hb9⟩ : ∃ q, q = w2.heap.size + 1 + 1 := ⟨_, rfl⟩
  rw [← hb9] at K9 ⊢
  rw [← hgm2] at MM K9
  have hgl : w2.heap.size ≤ gm2 := by omega
  have HBC := Lib.hid hb23
  have hw02 := HB02.out.size
  clear hw3 hb23 hgm2 hb9 hmm
  refine (note_any w0 w3 W.heap.size b9 gm2 0 _ n c row _ [] xa aN G0.out (by have := K2.out.cell 0; simpa using this) (below_next HB02.out HBC.out) (by omega) K9.out MM.out (fun x => rfl) hxa (fun x hx => by have := HXA.out.1 x hx; omega) (by omega)).mono ?_
  rintro e w4 ⟨rfl, k4, D4, hk4, hM4, hD4, hG4⟩
  have HM4 := Lib.hid hM4
  have HD4 : Hid (MapHas D4 (varsL row [(aN : Int)])) := by
    have e : varsL row [(aN : Int)] = [] ++ absL xa := by
      have h9 : row.getD aN [] = xa := by rw [List.getD_eq_getElem?_getD, hxa.out]; rfl
      unfold varsL
      simp only [List.flatMap_cons, List.flatMap_nil, List.append_nil, List.nil_append, Int.toNat_natCast]
      rw [h9]
    rw [e]; exact hD4
  have HK9 := Lib.hid (K9.out.grown hG4 (fun e => blk_map_ne K9.out MM.out (by injection e)))
  have HO4 := Lib.hid (OO.out.kept hG4 (.inr (own_map_ne OO.out MM.out)))
  have HBD : Hid (Below w2.heap.size w2 w4) := HBC.out.grown hG4 HBC.out.size (fun k hk => by cases hk; exact hgl)
  have hTB := (HST.out.tb.keep HBD.out)
  have c1' := hTB.cell 1
  simp at c1'
  have zg := hTB.lt
  clear hM4 hD4 hG4 OO MM K9 HBC hTB
  have hk4b : k4 ≤ 1000 := by omega
  have tl0 : t.length ≤ 1000 := HTL.out
  go_wp2_with fail
  go_loopw [8, 11] (fun s8 s11 wr => ∃ (k km n8 c8 : Nat) (A8 : Option Addr) (out : List Int) (D' : DataW Unit), k ≤ t.length ∧ n8 + k ≤ t.length + 1 ∧ km ≤ 1000 * n8 ∧ s8 = .slice A8 n8 c8 ∧ s11 = .int .i64 ((k : Int) - 1) ∧ Hid (Own 3 wr w2.heap.size A8 n8 c8 (out.map (Value.int .i64))) ∧ Hid (MapI wr gm2 km D') ∧ Hid (MapHas D' (varsL row out)) ∧ Hid (Blk wr b9 88 #[.map (some gm2)]) ∧ Hid (Below w2.heap.size w2 wr) ∧ Hid (cauF row t y k out = R)) (fun _ i _ => (intOf i + 1).toNat)
  case atStart => exact ⟨t.length, k4, 1, 1, _, [(aN : Int)], D4, Nat.le_refl _, by omega, by omega, rfl, by go_num, HO4, HM4, HD4, HK9, HBD, HRC2⟩
  case round =>
    clear HM4 HD4 HK9 HO4 HBD HRC2 c1' zg
    obtain ⟨k, km, n8, c8, A8, out, D', hk, hn8, hkm, rfl, rfl, hO, hM, hD, h9, hB, hcau⟩ := hrel
    have tl := HTL.out
    by_cases hk0 : k = 0
    · subst hk0
      obtain rfl : out = R := hcau.out
      have BW := Lib.hid (below_next HB2.out hB.out)
      have HOW := Lib.hid (hO.out.mono (base' := W.heap.size) HB2.out.size)
      clear hcau
      go_wp2_with fail
      go_ret
      exact ⟨A8, n8, c8, rfl, HOW.out, BW.out⟩
    · obtain ⟨j, rfl⟩ : ∃ j, k = j + 1 := ⟨k - 1, by omega⟩
      have hTB := Lib.hid (HST.out.tb.keep hB.out)
      have t1 := hTB.out.cell 1
      have t2 := hTB.out.cell 2
      simp at t1 t2
      have zg := hTB.out.lt
      have hLI := (HST.out.lits.keep hB.out).ints HTI.out
      have hYI := (HST.out.why.keep hB.out).ints HYI.out
      obtain ⟨bt, offt, x, hLe, hbt, hcellt, xx1, xx2, hxk⟩ := hLI.round (k := j) (by omega)
      obtain ⟨by', offy, q, hYe, hby, hcelly, qq1, qq2, hqk⟩ := hYI.round (k := j) (by rw [HHT.out.2.1]; omega)
      have hqr := HHT.out.2.2.1 q (List.mem_of_getElem? hqk.out)
      have hxr := HHT.out.1.1 x (List.mem_of_getElem? hxk.out)
      have hst : Hid ((if 0 ≤ q ∧ notedB row out x = true then cauF row t y j (out ++ [q]) else cauF row t y j out) = R) := by
        have := hcau.out
        rw [cauF, List.getD_eq_getElem?_getD, List.getD_eq_getElem?_getD, hqk.out, hxk.out] at this
        exact this
      have e9 := h9.out.cell 0
      simp at e9
      have z9 := h9.out.lt
      have ej : ((j + 1 : Nat) : Int) - 1 = (j : Int) := by omega
      rw [ej]
      have uj1 : (0 : Int) ≤ (j : Int) := by omega
      have uj2 : (j : Int) < (t.length : Int) := by omega
      have uj3 : (j : Int) < (y.length : Int) := by rw [HHT.out.2.1]; omega
      have hyl : y.length ≤ 1000 := by rw [HHT.out.2.1]; exact tl
      cases hLe
      cases hYe
      clear hcau hxk hqk hLI hYI hbt hby
      obtain ⟨nb, hnb⟩ : ∃ nb, Hid (notedB row out x = nb) := ⟨_, rfl⟩
      have lk : ∀ m, (Instr.lookup 88 (.map (some gm2)) (.int .i64 (x.natAbs : Int)) false).run Try.prog (wr.drewN m) = .ok (.bool nb) (wr.drewN m) := fun m => by
        have := look_has (hM.out.keep (below_drewN wr m)) hD.out (x := (x.natAbs : Int)) (by unfold I64; omega)
        rw [varsL_noted, hnb.out] at this
        exact this
      have NEXT : Hid ((if 0 ≤ q ∧ nb = true then cauF row t y j (out ++ [q]) else cauF row t y j out) = R) := by rw [← hnb.out]; exact hst
      clear hst
      by_cases hq0 : q < 0
      · have hst2 : Hid (cauF row t y j out = R) := by have := NEXT.out; rw [if_neg (by omega)] at this; exact this
        obtain rfl : q = -1 := by omega
        clear NEXT
        go_wp2_with fail
        go_quiet (fail)
        go_wp2_with fail
        go_roundw
        case rel => exact ⟨j, km, n8, c8, A8, out, D', by omega, by omega, by omega, rfl, by go_num, hO.out.keep (below_drewN _ _), hM.out.keep (below_drewN _ _), hD, h9.out.keep (below_drewN _ _), below_next hB.out (below_drewN _ _), hst2⟩
        case measure => simp [intOf] <;> omega
      · cases nb
        · have hst2 : Hid (cauF row t y j out = R) := by have := NEXT.out; rw [if_neg (by simp)] at this; exact this
          clear NEXT
          go_wp2_with fail
          go_quiet ((go_at_call 100; exact RetQ.quiet (var_any x _ (by omega) (by omega))))
          go_wp2_with fail
          go_roundw
          case rel => exact ⟨j, km, n8, c8, A8, out, D', by omega, by omega, by omega, rfl, by go_num, hO.out.keep (below_drewN _ _), hM.out.keep (below_drewN _ _), hD, h9.out.keep (below_drewN _ _), below_next hB.out (below_drewN _ _), hst2⟩
          case measure => simp [intOf] <;> omega
        · have hst2 : Hid (cauF row t y j (out ++ [q]) = R) := by have := NEXT.out; rw [if_pos ⟨by omega, rfl⟩] at this; exact this
          clear NEXT
          obtain ⟨Q, rfl⟩ : ∃ Q : Nat, q = (Q : Int) := ⟨q.toNat, by omega⟩
          obtain ⟨xq, hxq⟩ : ∃ xq, Hid (row[Q]? = some xq) := ⟨_, List.getElem?_eq_getElem (by rw [G0.out.len]; omega)⟩
          have HXQ : Hid (Lits vars xq) := HC.out _ (List.mem_of_getElem? hxq.out)
          have hxql : xq.length ≤ 1000 := by have := HXQ.out.len_le v0; omega
          go_wp2_with fail
          go_quiet ((go_at_call 100; exact RetQ.quiet (var_any x _ (by omega) (by omega))))
          obtain ⟨wq, hwq⟩ : ∃ wq : World, wq = wr.drewN nq := ⟨_, rfl⟩
          have hbq : Below wr.heap.size wr wq := by rw [hwq]; exact below_drewN _ _
          (try rw [← hwq])
          have HOQ := Lib.hid (hO.out.keep hbq)
          have HMQ := Lib.hid (hM.out.keep hbq)
          have H9Q := Lib.hid (h9.out.keep hbq)
          have HBQ := Lib.hid (below_next hB.out hbq)
          have hqz := HBQ.out.size
          have hS := ints_made wq 3 [(Q : Int)] rfl (by simp [I64]; omega) (by simp [maxLen])
          clear hwq hbq t1 t2 zg e9 z9 lk hcellt hcelly hTB hO hM h9 hB
          go_wp2_with (first
            | (at_builtin
               refine wpList_append_sl _ rfl (.tmp 66) (.tmp 68) _ rfl w2.heap.size 3 i0 _ 8 Try.underlying25 hi0 hz0 hz1 hz2 rfl A8 n8 c8 _ rfl (HOQ.out.keep (below_new _ _)) (some ⟨wq.heap.size, 0, none⟩) 1 1 _ rfl hS.sl (ints_one _) (by simp only [maxLen]; omega) (by omega) (by simp; omega) ?_
               intro L8 cL8 w9 hL8 hg8 hat8
               have HL8 : Hid (Own 3 w9 w2.heap.size L8 (n8 + 1) cL8 ((out ++ [(Q : Int)]).map (Value.int .i64))) := by rw [Hid, List.map_append]; exact hL8
               have HB9 : Hid (Below w2.heap.size w2 w9) := below_grown (below_alloc HBQ.out (.cells #[.int .i64 (Q : Int)] 3)) (HOQ.out.keep (below_new wq (.cells #[.int .i64 (Q : Int)] 3))) (Nat.le_refl _) hg8
               have HM9 := Lib.hid ((HMQ.out.keep (below_new wq (.cells #[.int .i64 (Q : Int)] 3))).kept hg8 (fun e => own_map_ne HOQ.out HMQ.out e.symm))
               have H99 : Hid (Blk w9 b9 88 #[.map (some gm2)]) := by
                 refine (H9Q.out.alloc (.cells #[.int .i64 (Q : Int)] 3)).grown hg8 (fun e => ?_)
                 rcases HOQ.out.ne_typed (Typed.of_blk H9Q.out) (by decide) with h | h
                 · rw [h] at e; cases e
                 · exact h e.symm
               clear hL8 hg8 hat8))
          have hw02 := HB02.out.size
          refine (note_any w0 w9 W.heap.size b9 gm2 km _ n c row D' (varsL row out) xq Q G0.out (by have := K2.out.cell 0; simpa using this) (below_next HB02.out HB9.out) (by omega) H99.out HM9.out hD.out hxq (fun x hx => by have := HXQ.out.1 x hx; omega) (by omega)).mono ?_
          rintro e w10 ⟨rfl, k10, D10, hk10, hM10, hD10, hG10⟩
          have HM10 := Lib.hid hM10
          have HD10 : Hid (MapHas D10 (varsL row (out ++ [(Q : Int)]))) := by
            have h9 : row.getD Q [] = xq := by rw [List.getD_eq_getElem?_getD, hxq.out]; rfl
            rw [Hid, varsL_snoc, Int.toNat_natCast, h9]
            exact hD10
          have HK10 := Lib.hid (H99.out.grown hG10 (fun e => blk_map_ne H99.out HM9.out (by injection e)))
          have HO10 := Lib.hid (HL8.out.kept hG10 (.inr (own_map_ne HL8.out HM9.out)))
          have HB10 : Hid (Below w2.heap.size w2 w10) := HB9.out.grown hG10 HB9.out.size (fun k hk => by cases hk; exact hgl)
          clear hM10 hD10 hG10
          go_wp2_with fail
          go_roundw
          case rel => exact ⟨j, k10, n8 + 1, cL8, L8, out ++ [(Q : Int)], D10, by omega, by omega, by omega, rfl, by go_num, HO10, HM10, HD10, HK10, HB10, hst2⟩
          case measure => simp [intOf] <;> omega
end Go.Proofs.Ytabjbpkojbdgaaa

/- Contracts of the closures of check.Why. (Printed by wip/tools/check.py.) -/
namespace Go.Proofs.Ytabjbpkojbdgaaa
open Go.RowKit
set_option linter.unusedSimpArgs false

theorem held1 {W wa wb : World} {a0 : Addr} {v0 : Value} (h : wa.cell? a0 = some v0 ∧ Below W.heap.size W wa) (hb : Below wa.heap.size wa wb) : wb.cell? a0 = some v0 ∧ Below W.heap.size W wb := ⟨keepBox hb h.1, below_next h.2 hb⟩
set_option maxHeartbeats 4000000 in
set_option maxRecDepth 100000 in
theorem why1_any (A S : Option Addr) (n c ns cs b : Nat) (xs ys : List Int) (W : World) (hc : W.cell? ⟨b, 0, none⟩ = some (.slice S ns cs)) (hS : Ints W S ns cs (sortF xs)) (h : Ints W A n c ys) (hy : ∀ x ∈ ys, -1000000 ≤ x ∧ x ≤ 1000000) (hn : n ≤ 1000000) :
    Calls Try.prog 94 #[.slice A n c, .pointer (some ⟨b, 0, none⟩)] W (RetV (.bool (likeB xs ys)) W) := by
  have hbd := h.bd
  have hbs := hS.bd
  have hl := Lib.hid h.len
  have hls := Lib.hid hS.len
  have HY := Lib.hid h
  have HS := Lib.hid hS
  have HYB := Lib.hid hy
  obtain ⟨r, hr⟩ : ∃ r, Hid (likeB xs ys = r) := ⟨_, rfl⟩
  rw [hr.out]
  clear h hS hy
  by_cases hnn : n = ns
  · subst hnn
    have dn : ((n : Int) == (n : Int)) = true := by simp
    have hr2 : Hid (sameB (sortF ys) (sortF xs) = r) := by have := hr.out; unfold likeB at this; rw [hl.out, show xs.length = n by rw [← sortF_len xs]; exact hls.out] at this; simpa [sameB, Hid] using this
    have Q0 := Lib.hid (show W.cell? ⟨b, 0, none⟩ = some (.slice S n cs) ∧ Below W.heap.size W W from ⟨hc, Below.refl _ _⟩)
    go_enter Try.func94, Try.ntmps94
    go_wp2_with fail
    go_region_held3 (fun w' => w'.cell? ⟨b, 0, none⟩ = some (.slice S n cs) ∧ Below W.heap.size W w') (first | exact held1 (by assumption) (by assumption) | exact held1 (by assumption) (below_new _ _) | exact held1 (by assumption) (below_drewN _ _) | exact held1 Q0.out (below_drewN _ 1))
      (first
        | (go_at_call 57; (with_reducible refine (sorted_any _ _ _ ys _ ?_ HYB.out hn).mono ?_); (exact HY.out.keep (And.right (by assumption))); rintro e w6 ⟨A6, n6, c6, rfl, hO6, hb6⟩; have I6 := hO6.ints (fun q hq => (by have := HYB.out q (sortF_mem.1 hq); unfold I64; omega)); clear hO6)
        | (go_at_call 95; (with_reducible refine (equal_ints _ _ _ _ _ _ (sortF ys) (sortF xs) _ ?_ ?_ r hr2).mono ?_); (exact I6); (exact HS.out.keep (And.right (by assumption))); rintro e w8 ⟨rfl, k8, rfl⟩))
    all_goals
      go_wp2_with fail
      go_ret
      exact ⟨rfl, And.right (by assumption)⟩
  · have dn : ((n : Int) == (ns : Int)) = false := by simp; omega
    obtain rfl : false = r := by
      rw [← hr.out]
      unfold likeB
      rw [hl.out, show xs.length = ns by rw [← sortF_len xs]; exact hls.out]
      simp [hnn]
    go_enter Try.func94, Try.ntmps94
    go_wp2_with fail
    go_quiet (fail)
    go_wp2_with fail
    go_ret
    exact ⟨rfl, below_drewN _ _⟩
theorem enters_why1 : Enters Try.prog 94 := enters_of Try.func94 (by kernel_rfl) rfl
theorem why2_any (A : Option Addr) (n c : Nat) (xs : List Int) (W : World) (h : Ints W A n c xs) : Calls Try.prog 98 #[.slice A n c] W (RetV (.bool xs.isEmpty) W) := by
  have hbd := h.bd
  have hl := h.len
  have e : xs.isEmpty = decide (n = 0) := by rw [Bool.eq_iff_iff, List.isEmpty_iff_length_eq_zero, hl]; simp
  rw [e]
  by_cases h0 : n = 0
  · subst h0
    go_enter Try.func98, Try.ntmps98
    go_wp2_with fail
    go_ret
    exact ⟨rfl, Below.refl _ _⟩
  · have d1 : ((n : Int) == 0) = false := by simp; omega
    have d2 : decide (n = 0) = false := by simp; omega
    rw [d2]
    go_enter Try.func98, Try.ntmps98
    go_wp2_with fail
    go_ret
    exact ⟨rfl, Below.refl _ _⟩
theorem enters_why2 : Enters Try.prog 98 := enters_of Try.func98 (by kernel_rfl) rfl
end Go.Proofs.Ytabjbpkojbdgaaa

/- Contracts of check.Why and check.Take. (Printed by wip/tools/check.py.) -/
namespace Go.Proofs.Ytabjbpkojbdgaaa
open Go.RowKit
set_option linter.unusedSimpArgs false

/-- What check.Why tells. -/
def whyS (vars : Int) (xss : List (List Int)) (rs : List (Int × List Int)) : Int × Int × Int := if (stepsR vars xss rs).1 ≠ 0 then (0, stepsR vars xss rs) else (whyF vars rs.length xss rs 0, 0, 0)

set_option maxHeartbeats 8000000 in
set_option maxRecDepth 100000 in
theorem why_any (A B : Option Addr) (n c m d : Nat) (xss : List (List Int)) (rs : List (Int × List Int)) (vars : Int) (w : World) (h : Grid w A n c xss) (hv : I64 vars) (h' : Steps w B m d rs) (z r1 r2 : Int) (hz : Hid (whyS vars xss rs = (z, r1, r2))) :
    Calls Try.prog 63 #[.agg #[.int .i64 vars, .slice A n c], .slice B m d] w (RetV (.tuple #[.int .i64 z, .agg #[.int .i64 r1, .int .i64 r2]]) w) := by
  have hbd := h.bd
  have hbd' := h'.bd
  have hlen := Lib.hid h'.len
  have hlx := Lib.hid h.len
  have G := Lib.hid h
  have V := Lib.hid h'
  obtain ⟨i0, hi0, hz0, hz1, hz2⟩ := info_parts row_info
  obtain ⟨vs0, hvs0, hrp0⟩ := h.rowsP 3 (Nat.le_refl _)
  have HVS0 := Lib.hid hvs0
  have HRP0 := Lib.hid hrp0
  obtain ⟨q1, q2, hq⟩ : ∃ q1 q2, Hid (stepsR vars xss rs = (q1, q2)) := ⟨_, _, rfl⟩
  have hz' : Hid ((if q1 ≠ 0 then ((0 : Int), q1, q2) else (whyF vars m xss rs 0, 0, 0)) = (z, r1, r2)) := by have := hz.out; rw [whyS, hq.out, hlen.out] at this; exact this
  clear h h' hz hvs0 hrp0
  go_enter Try.func63, Try.ntmps63
  go_wp2_with fail
  refine (checked_any _ _ _ _ _ _ xss rs vars _ (G.out.keep (below_alloc (below_new _ _) _)) hv (V.out.keep (below_alloc (below_new _ _) _)) q1 q2 hq).mono ?_
  rintro e w1 ⟨rfl, hb1⟩
  obtain ⟨K_c0, K_r0, B_w1, l_w1⟩ := two_blks hb1
  have c0 := K_c0.cell 0
  have c1 := K_c0.cell 1
  have e0 := K_r0.cell 0
  have e1 := K_r0.cell 1
  have f0 := K_r0.frozen 0
  have f1 := K_r0.frozen 1
  simp at c0 c1 e0 e1
  have lc : w.heap.size < w1.heap.size := by omega
  have lr : w.heap.size + 1 < w1.heap.size := by omega
  have HB1 := Lib.hid B_w1
  have KR1 := Lib.hid K_r0
  clear hb1 K_c0 K_r0 B_w1
  by_cases hq1 : q1 = 0
  rotate_left
  · have d1 : (q1 != 0) = true := by simpa using hq1
    obtain ⟨rfl, rfl, rfl⟩ : 0 = z ∧ q1 = r1 ∧ q2 = r2 := by have := hz'.out; rw [if_pos hq1] at this; simpa using this
    go_wp2_with fail
    go_region
    go_wp2_with fail
    refine bodyPost_ret (v := .tuple #[.int .i64 0, .agg #[.int .i64 q1, .int .i64 q2]]) (by simp [results, Try.results63, go_sem, e0, e1, lr]) rfl ⟨rfl, ?_⟩
    exact ((below_put2 HB1.out (g := w.heap.size + 1) (by omega) _ _).alloc (by simp; omega) _).drew
  · subst hq1
    obtain ⟨hz0', hck, hm3, hrs⟩ := stepsR_ok (vars := vars) (xss := xss) (rs := rs) (by rw [hq.out])
    rw [hlen.out] at hm3
    obtain ⟨_, v0, v1, hn400, hrows⟩ := checkC_ok hck
    obtain ⟨hzz, rfl, rfl⟩ : whyF vars m xss rs 0 = z ∧ 0 = r1 ∧ 0 = r2 := by have := hz'.out; rw [if_neg (by simp)] at this; simpa using this
    have HZZ := Lib.hid hzz
    have hn4 : n ≤ 400 := by have := hlx.out; omega
    have HRS := Lib.hid hrs
    have HL0 : Hid (∀ x ∈ xss, Lits vars x) := fun x hx => (hrows x hx).2
    clear hz' hz0' hrs hrows hn400 hzz
    obtain ⟨wa, hwa⟩ : ∃ wa : World, wa = w1.alloc (.cells #[.int .i64 0, .int .i64 q2] 28) := ⟨_, rfl⟩
    have hbx : Below w1.heap.size w1 wa := by rw [hwa]; exact below_new _ _
    have HB := Lib.hid (below_next HB1.out hbx)
    have KR := Lib.hid (KR1.out.keep hbx)
    have HWA := Lib.hid hwa
    clear hwa hbx
    go_wp2_with fail
    rw [← HWA.out]
    have hwsz := HB.out.size
    refine (clone_rows A n c w.heap.size xss wa vs0 (HVS0.out.keep HB.out) (HRP0.out.keep HB.out) (by omega) hwsz).mono ?_
    rintro e w2 ⟨L0, n0, cl0, rfl, hO0, hb2⟩
    have hl0 := hO0.len
    rw [hlx.out] at hl0
    subst hl0
    have O0 := Lib.hid hO0
    have B2 := Lib.hid hb2
    clear HWA c0 c1 e0 e1 f0 f1 lc lr hO0 hb2
    go_wp2_with fail
    go_loopw [7, 24] (fun s7 s wr => ∃ (k nl cl : Nat) (L : Option Addr) (l : List (List Int)), k ≤ m ∧ s7 = .slice L nl cl ∧ s = .int .i64 k ∧ nl ≤ 400 + k ∧ Hid (OwnP 25 3 wr wa.heap.size w.heap.size L nl cl l) ∧ Hid (whyF vars m l (rs.drop k) k = z) ∧ Hid (∀ x ∈ l, Lits vars x) ∧ Hid (Below wa.heap.size wa wr)) (fun _ s _ => m - (intOf s).toNat)
    case atStart => exact ⟨0, n, cl0, L0, xss, Nat.zero_le _, rfl, rfl, by omega, O0, HZZ, HL0, B2⟩
    case round =>
      clear O0 B2 HZZ HL0
      obtain ⟨k, nl, cl, L, l, hk, rfl, rfl, hnl, hO, hgo, hll, hbl⟩ := hrel
      obtain ⟨hlnl, hlc, hlc2⟩ := hO.out.len'
      have HLN := Lib.hid hlnl
      have hwr := hbl.out.size
      have hgr := hO.out.grid
      have HG := Lib.hid hgr
      have KRw := Lib.hid (KR.out.keep hbl.out)
      clear hlnl hgr
      by_cases hlt : k < m
      · obtain ⟨b, off, kd, X, nx, cx, xs, X2, n2, c2, i3, i4, i5, X6, n6, c6, i7, i8, hBe, hb, s0, s1, s2, s3, s4, s5, s6, s7, s8, hkd, hxs, hrk⟩ := (V.out.keep (below_next HB.out hbl.out)).round hlt
        subst hBe
        have hAw : Away 3 w w.heap.size X nx := by
          obtain ⟨bb, oo, eB, hltb, hcc⟩ := V.out.at_ (by omega)
          cases eB
          obtain ⟨X', nx', cx', Xa, na, ca, j3, j4, j5, Xb, nb, cb, j7, j8, t0, t1, _, _, _, _, _, _, _, hI⟩ := hcc k _ hrk.out
          have e2 := keepBox (below_next HB.out hbl.out) t1
          rw [s1] at e2
          cases e2
          exact Away.old hI (Nat.le_refl _)
        have HAW := Lib.hid hAw
        obtain ⟨hkk, hxl⟩ := HRS.out (kd, xs) (List.mem_of_getElem? hrk.out)
        have HXL := Lib.hid hxl
        have hnx : nx ≤ 120 := by have h1 := hxl.len_le v0; have h2 := hxs.len; simp at h1; omega
        have y1 : (0 : Int) ≤ (k : Int) := by omega
        have y2 : (k : Int) < (m : Int) := by omega
        have hbs := below_new wr (.cells #[.int .i64 kd, .slice X nx cx, .slice X2 n2 c2, .int .i64 i3, .int .i64 i4, .int .i64 i5, .slice X6 n6 c6, .int .i64 i7, .int .i64 i8] 102)
        have HXS := Lib.hid (hxs.keep hbs)
        have HBS := Lib.hid hbs
        have OS := Lib.hid (hO.out.keep hbs)
        have KS := Lib.hid (Blk.new wr 102 #[.int .i64 kd, .slice X nx cx, .slice X2 n2 c2, .int .i64 i3, .int .i64 i4, .int .i64 i5, .slice X6 n6 c6, .int .i64 i7, .int .i64 i8])
        have hgo2 : Hid ((if kd = 1 then (if fallsF vars l xs then whyF vars m (l ++ [xs]) (rs.drop (k + 1)) (k + 1) else (k : Int)) else (if idxF (likeB xs) l 0 < 0 then (k : Int) else whyF vars m (l.eraseIdx (idxF (likeB xs) l 0).toNat) (rs.drop (k + 1)) (k + 1))) = z) := by have := hgo.out; rw [drop_cons_of hrk.out, whyF] at this; exact this
        clear hxs hgo hxl hbs hAw
        have hk12 : kd = 1 ∨ kd = 2 := hkk
        clear hkk
        rcases hk12 with rfl | rfl
        · obtain ⟨q, hfq⟩ : ∃ q, Hid (fallsF vars l xs = q) := ⟨_, rfl⟩
          have hgo3 : Hid ((if q then whyF vars m (l ++ [xs]) (rs.drop (k + 1)) (k + 1) else (k : Int)) = z) := by have := hgo2.out; rw [if_pos rfl, hfq.out] at this; exact this
          clear hgo2
          go_wp2_with fail
          refine (falls_any _ _ _ _ _ _ l xs vars _ OS.out.grid HXS.out v0 (by omega) hll.out HXL.out q hfq).mono ?_
          rintro e w3 ⟨rfl, hb3⟩
          have KS3 := Lib.hid (KS.out.keep hb3)
          have HB3 := Lib.hid (below_next HBS.out hb3)
          have O3 := Lib.hid (OS.out.keep hb3)
          have X3 := Lib.hid (HXS.out.keep hb3)
          have KR3 := Lib.hid (KRw.out.keep HB3.out)
          have hw3 := HB3.out.size
          clear hb3 s0 s1 s2 s3 s4 s5 s6 s7 s8 hb
          have k1 := KS3.out.cell 1
          simp at k1
          have lk := KS3.out.lt
          cases q
          · obtain rfl : (k : Int) = z := by have := hgo3.out; simpa using this
            have e0 := KR3.out.cell 0
            have e1 := KR3.out.cell 1
            have f0 := KR3.out.frozen 0
            have f1 := KR3.out.frozen 1
            simp at e0 e1
            have lr := KR3.out.lt
            have SI : Hid ((w3.setCell ⟨w.heap.size + 1, 0, none⟩ (.int .i64 0)).setCell ⟨w.heap.size + 1, 1, none⟩ (.int .i64 0) = w3) := by rw [setCell_id KR3.out rfl, setCell_id KR3.out rfl]; rfl
            have BF := Lib.hid (below_next (below_next HB.out hbl.out) HB3.out)
            go_wp2_with fail
            exact bodyPost_ret (v := .tuple #[.int .i64 k, .agg #[.int .i64 0, .int .i64 0]]) (by rw [SI.out]; simp [results, Try.results63, go_sem, e0, e1]) rfl ⟨rfl, by rw [SI.out]; exact BF.out⟩
          · have hgo4 : Hid (whyF vars m (l ++ [xs]) (rs.drop (k + 1)) (k + 1) = z) := by have := hgo3.out; simpa [Hid] using this
            obtain ⟨vs, hv1, hv2⟩ := O3.out
            have HV1 := Lib.hid (hv1.keep (below_new w3 (.cells #[.slice X nx cx] 25)))
            have HV2 := Lib.hid (hv2.keep (below_new w3 (.cells #[.slice X nx cx] 25)))
            have hSS := sl_one w3 25 (.slice X nx cx) rfl
            clear hv1 hv2
            go_wp2_with (first
              | (at_builtin
                 refine wpList_append_sl _ rfl (.tmp 39) (.tmp 42) _ rfl wa.heap.size 25 i0 _ 24 Try.underlying22 hi0 hz0 hz1 hz2 rfl L nl cl _ rfl HV1.out (some ⟨w3.heap.size, 0, none⟩) 1 1 _ rfl hSS (by simp [Value.oneCell']) (by simp only [maxLen]; omega) (by omega) (by simp; omega) ?_
                 intro L1 cL1 w6 hL1 hg1 hat1
                 have HP6 := Lib.hid (OwnP.push HV1.out HV2.out hwsz row_ne (X3.out.keep (below_new _ _)) (HAW.out.keep (below_next (below_next HB.out hbl.out) (below_next HB3.out (below_new _ _)))) hL1 hg1)
                 have HB6 := Lib.hid (below_grown (below_alloc (below_next hbl.out HB3.out) (.cells #[.slice X nx cx] 25)) HV1.out (Nat.le_refl _) hg1)
                 clear hL1 hg1 hat1))
            go_roundw
            case rel => exact ⟨k + 1, nl + 1, cL1, L1, l ++ [xs], by omega, rfl, by go_num, by omega, HP6, hgo4, snoc_lits hll.out HXL.out, HB6⟩
            case measure => simp [intOf]; omega
        · obtain ⟨r, hr⟩ : ∃ r, Hid (idxF (likeB xs) l 0 = r) := ⟨_, rfl⟩
          have hgo3 : Hid ((if r < 0 then (k : Int) else whyF vars m (l.eraseIdx r.toNat) (rs.drop (k + 1)) (k + 1)) = z) := by have := hgo2.out; rw [if_neg (by decide), hr.out] at this; exact this
          have HXB : Hid (∀ x ∈ xs, -1000000 ≤ x ∧ x ≤ 1000000) := fun x hx => by have := HXL.out.1 x hx; omega
          clear hgo2
          go_wp2_with fail
          refine (sorted_any _ _ _ xs _ HXS.out HXB.out (by omega)).mono ?_
          rintro e w3 ⟨S3, ns3, cs3, rfl, hO3, hb3⟩
          have I3 := Lib.hid (hO3.ints (fun q hq => (by have := HXB.out q (sortF_mem.1 hq); unfold I64; omega)))
          obtain ⟨w4, hw4⟩ : ∃ w4 : World, w4 = w3.alloc (.cells #[.slice S3 ns3 cs3] 25) := ⟨_, rfl⟩
          have hb4 : Below w3.heap.size w3 w4 := by rw [hw4]; exact below_new _ _
          have cb : w4.cell? ⟨w3.heap.size, 0, none⟩ = some (.slice S3 ns3 cs3) := by rw [hw4]; simp [go_sem]
          have HB4 := Lib.hid (below_next HBS.out (below_next hb3 hb4))
          have O4 := Lib.hid (OS.out.keep (below_next hb3 hb4))
          have I4 := Lib.hid (I3.out.keep hb4)
          have CB := Lib.hid cb
          have HW4 := Lib.hid hw4
          have hgr4 := O4.out.grid
          have HP : Hid (PredR 94 #[.pointer (some ⟨w3.heap.size, 0, none⟩)] l (likeB xs) w4) := by
            intro V' Y ny cy y hV hy hm
            have hly := hll.out y hm
            have h1 := hly.len_le v0
            have h2 := hy.len
            exact why1_any Y S3 ny cy ns3 cs3 w3.heap.size xs y V' (keepBox hV CB.out) (I4.out.keep hV) hy (fun x hx => by have := hly.1 x hx; omega) (by omega)
          clear hO3 hb3 hw4 hb4 cb s0 s1 s2 s3 s4 s5 s6 s7 s8 hb hgr4
          go_wp2_with fail
          rw [← HW4.out]
          refine (indexFunc_rows _ _ _ l _ O4.out.grid _ _ enters_why1 _ HP.out r hr).mono ?_
          rintro e w5 ⟨rfl, hb5⟩
          have O5 := Lib.hid (O4.out.keep hb5)
          have HB5 := Lib.hid (below_next HB4.out hb5)
          have hw5 := HB5.out.size
          clear hb5 HP HW4
          by_cases hr0 : r < 0
          · obtain rfl : (k : Int) = z := by have := hgo3.out; rw [if_pos hr0] at this; exact this
            have KR5 := Lib.hid (KRw.out.keep HB5.out)
            have e0 := KR5.out.cell 0
            have e1 := KR5.out.cell 1
            have f0 := KR5.out.frozen 0
            have f1 := KR5.out.frozen 1
            simp at e0 e1
            have lr := KR5.out.lt
            have SI : Hid ((w5.setCell ⟨w.heap.size + 1, 0, none⟩ (.int .i64 0)).setCell ⟨w.heap.size + 1, 1, none⟩ (.int .i64 0) = w5) := by rw [setCell_id KR5.out rfl, setCell_id KR5.out rfl]; rfl
            have BF := Lib.hid (below_next (below_next HB.out hbl.out) HB5.out)
            go_wp2_with fail
            exact bodyPost_ret (v := .tuple #[.int .i64 k, .agg #[.int .i64 0, .int .i64 0]]) (by rw [SI.out]; simp [results, Try.results63, go_sem, e0, e1]) rfl ⟨rfl, by rw [SI.out]; exact BF.out⟩
          · have hrl : r < nl := by
              rcases idxF_lt (likeB xs) l 0 with h1 | ⟨_, h2, _⟩
              · rw [hr.out] at h1; omega
              · rw [hr.out, HLN.out] at h2; simpa using h2
            obtain ⟨j, rfl⟩ : ∃ j : Nat, r = j := ⟨r.toNat, by omega⟩
            have hj : j < nl := by omega
            obtain ⟨g, _, _, _, _, hLe, hg0, _⟩ := O5.out.round hj
            subst hLe
            have hgo4 : Hid (whyF vars m (l.eraseIdx j) (rs.drop (k + 1)) (k + 1) = z) := by have := hgo3.out; rw [if_neg hr0] at this; simpa [Hid] using this
            go_wp2_with fail
            have ek : (j : Int) + 1 = ((j + 1 : Nat) : Int) := by omega
            rw [ek]
            refine (delete_rowsL wa.heap.size w.heap.size g nl cl cl j l w5 hwsz O5.out (by omega) hlc (Nat.le_refl _) hj).mono ?_
            rintro e w6 ⟨rfl, hO6, hg6⟩
            have O6 := Lib.hid hO6
            have B6 : Hid (Below wa.heap.size wa w6) := (below_next hbl.out HB5.out).grown hg6 (by omega) (fun k' hk' => by cases hk'; exact hg0)
            clear hO6 hg6 ek
            go_wp2_with fail
            go_roundw
            case rel => exact ⟨k + 1, nl - 1, cl, some ⟨g, 0, none⟩, l.eraseIdx j, by omega, rfl, by go_num, by omega, O6, hgo4, eraseIdx_lits hll.out j, B6⟩
            case measure => simp [intOf]; omega
      · obtain rfl : k = m := by omega
        obtain ⟨q, hqq⟩ : ∃ q, Hid (l.any (fun x => x.isEmpty) = q) := ⟨_, rfl⟩
        have hgo2 : Hid ((if q then (-1 : Int) else (k : Int)) = z) := by have := hgo.out; rw [List.drop_of_length_le (by rw [hlen.out]; omega), whyF, hqq.out] at this; exact this
        have HP : Hid (PredR 98 #[] l (fun x => x.isEmpty) wr) := by
          intro V' Y ny cy y hV hy hm
          exact why2_any Y ny cy y V' hy
        clear hgo
        go_wp2_with fail
        refine (containsFunc_rows _ _ _ l _ HG.out _ _ enters_why2 _ HP.out q hqq).mono ?_
        rintro e w5 ⟨rfl, hb5⟩
        have HB5 := Lib.hid hb5
        have KR5 := Lib.hid (KRw.out.keep hb5)
        have e0 := KR5.out.cell 0
        have e1 := KR5.out.cell 1
        have f0 := KR5.out.frozen 0
        have f1 := KR5.out.frozen 1
        simp at e0 e1
        have lr := KR5.out.lt
        have SI : Hid ((w5.setCell ⟨w.heap.size + 1, 0, none⟩ (.int .i64 0)).setCell ⟨w.heap.size + 1, 1, none⟩ (.int .i64 0) = w5) := by rw [setCell_id KR5.out rfl, setCell_id KR5.out rfl]; rfl
        have BF := Lib.hid (below_next (below_next HB.out hbl.out) HB5.out)
        clear hb5 HP
        cases q
        · obtain rfl : (k : Int) = z := by have := hgo2.out; simpa using this
          go_wp2_with fail
          exact bodyPost_ret (v := .tuple #[.int .i64 k, .agg #[.int .i64 0, .int .i64 0]]) (by rw [SI.out]; simp [results, Try.results63, go_sem, e0, e1]) rfl ⟨rfl, by rw [SI.out]; exact BF.out⟩
        · obtain rfl : -1 = z := by have := hgo2.out; simpa using this
          go_wp2_with fail
          exact bodyPost_ret (v := .tuple #[.int .i64 (-1), .agg #[.int .i64 0, .int .i64 0]]) (by rw [SI.out]; simp [results, Try.results63, go_sem, e0, e1]) rfl ⟨rfl, by rw [SI.out]; exact BF.out⟩

set_option maxHeartbeats 1000000 in
theorem take_any (A B : Option Addr) (n c m d : Nat) (xss : List (List Int)) (rs : List (Int × List Int)) (vars : Int) (w : World) (h : Grid w A n c xss) (hv : I64 vars) (h' : Steps w B m d rs) (z r1 r2 : Int) (hz : Hid (whyS vars xss rs = (z, r1, r2))) (q : Bool) (hq : Hid ((decide (r1 = 0) && decide (z = -1)) = q)) :
    Calls Try.prog 39 #[.agg #[.int .i64 vars, .slice A n c], .slice B m d] w (RetV (.tuple #[.bool q, .agg #[.int .i64 r1, .int .i64 r2]]) w) := by
  have hbd := h.bd
  have hbd' := h'.bd
  have G := Lib.hid h
  have V := Lib.hid h'
  clear h h'
  go_enter Try.func39, Try.ntmps39
  go_wp2_with fail
  refine (why_any _ _ _ _ _ _ xss rs vars _ (G.out.keep (below_alloc (below_new _ _) _)) hv (V.out.keep (below_alloc (below_new _ _) _)) z r1 r2 hz).mono ?_
  rintro e w1 ⟨rfl, hb1⟩
  obtain ⟨K_c0, K_r0, B_w1, l_w1⟩ := two_blks hb1
  have e0 := K_r0.cell 0
  have e1 := K_r0.cell 1
  have f0 := K_r0.frozen 0
  have f1 := K_r0.frozen 1
  simp at e0 e1
  have lr : w.heap.size + 1 < w1.heap.size := by omega
  have HB1 := Lib.hid B_w1
  clear hb1 K_c0 K_r0 B_w1
  by_cases hr1 : r1 = 0
  · subst hr1
    obtain rfl : r2 = 0 := by
      have := hz.out
      rw [whyS] at this
      by_cases h1 : (stepsR vars xss rs).1 ≠ 0
      · rw [if_pos h1] at this; exfalso; apply h1; rw [(Prod.mk.inj this).2]
      · rw [if_neg h1] at this; simpa using (Prod.mk.inj (Prod.mk.inj this).2).2.symm
    obtain rfl : (z == -1) = q := by rw [← hq.out]; by_cases h : z = -1 <;> simp [h]
    go_wp2_with fail
    refine bodyPost_ret (v := .tuple #[.bool (z == -1), .agg #[.int .i64 0, .int .i64 0]]) (by simp [results, Try.results39, go_sem, e0, e1, lr]) rfl ⟨rfl, ?_⟩
    exact (below_put2 HB1.out (g := w.heap.size + 1) (by omega) _ _).alloc (by simp; omega) _
  · have d1 : (r1 != 0) = true := by simpa using hr1
    obtain rfl : false = q := by rw [← hq.out]; simp [hr1]
    go_wp2_with fail
    go_region
    go_wp2_with fail
    refine bodyPost_ret (v := .tuple #[.bool false, .agg #[.int .i64 r1, .int .i64 r2]]) (by simp [results, Try.results39, go_sem, e0, e1, lr]) rfl ⟨rfl, ?_⟩
    exact ((below_put2 HB1.out (g := w.heap.size + 1) (by omega) _ _).alloc (by simp; omega) _).drew
end Go.Proofs.Ytabjbpkojbdgaaa

/- Contracts of trim's required. -/
namespace Go.Proofs.Ytabjbpkojbdgaaa
open Go.RowKit Go.Maps Go.WideMaps
set_option linter.unusedSimpArgs false

theorem bool_infoR : (Try.prog.info? 4).map (fun i => (i.zero, i.size, i.bytes)) = some (some (.bool false), 1, 1) := by kernel_rfl
theorem OwnP.kept {e t t' : TypeId} {w w' : World} {base low n c : Nat} {A : Option Addr} {xss : List (List Int)} {row : Option Nat} (h : OwnP e t w base low A n c xss) (hg : w.grownBy w' row) (hr : ∀ g, row = some g → low ≤ g ∧ Typed t' w g) (ne : e ≠ t') (nt : t ≠ t') : OwnP e t w' base low A n c xss := by
  obtain ⟨vs, h1, h2⟩ := h
  refine ⟨vs, h1.kept hg ?_, h2.kept hg hr nt⟩
  cases row with
  | none =>
    by_cases h0 : blockOf A = none
    · exact .inl h0
    · exact .inr h0
  | some g => exact h1.ne_typed (hr g rfl).2 ne
theorem required1_any (X : Option Addr) (n c : Nat) (xs : List Int) (w : World) (h : Ints w X n c xs) : Calls Try.prog 88 #[.slice X n c] w (RetV (.bool xs.isEmpty) w) := by
  have hl := h.len
  by_cases h0 : n = 0
  · subst h0
    have e : xs.isEmpty = true := by rw [List.isEmpty_iff_length_eq_zero]; exact hl
    rw [e]
    go_enter Try.func88, Try.ntmps88
    go_wp2_with fail
    go_ret
    exact ⟨rfl, Below.refl _ _⟩
  · have e : xs.isEmpty = false := by rw [Bool.eq_false_iff]; intro e; rw [List.isEmpty_iff_length_eq_zero] at e; omega
    have d : ((n : Int) == 0) = false := by rw [beq_eq_false_iff_ne]; omega
    rw [e]
    go_enter Try.func88, Try.ntmps88
    go_wp2_with fail
    go_ret
    exact ⟨rfl, Below.refl _ _⟩
theorem enters_required1 : Enters Try.prog 88 := enters_of Try.func88 (by kernel_rfl) rfl

/-- What is wrong with a proof that is to be trimmed. -/
def proofR (vars : Int) (xss : List (List Int)) (rs : List (Int × List Int)) : Int × Int :=
  if (whyS vars xss rs).2.1 ≠ 0 then (whyS vars xss rs).2 else if (whyS vars xss rs).1 ≠ -1 then (11, (whyS vars xss rs).1) else (0, 0)
def RetReq (xss : List (List Int)) (o : List Bool) (w : World) (e : Ending) (w' : World) : Prop :=
  ∃ L nl cl gb, e = .returned (.tuple #[.slice L nl cl, .slice (some ⟨gb, 0, none⟩) nl nl, .agg #[.int .i64 0, .int .i64 0]]) ∧ OwnP 25 3 w' (w.heap.size + 2) w.heap.size L nl cl xss ∧ Bools w' (some ⟨gb, 0, none⟩) nl nl o ∧ Below w.heap.size w w'

set_option maxHeartbeats 2000000 in
theorem required_wrong (A B : Option Addr) (n c m d : Nat) (xss : List (List Int)) (rs : List (Int × List Int)) (vars : Int) (w : World) (h : Grid w A n c xss) (hv : I64 vars) (h' : Steps w B m d rs) (r1 r2 : Int) (hr : Hid (proofR vars xss rs = (r1, r2))) (h0 : r1 ≠ 0) :
    Calls Try.prog 56 #[.agg #[.int .i64 vars, .slice A n c], .slice B m d] w (RetV (.tuple #[.slice none 0 0, .slice none 0 0, .agg #[.int .i64 r1, .int .i64 r2]]) w) := by
  obtain ⟨z, q1, q2, hz⟩ : ∃ z q1 q2, Hid (whyS vars xss rs = (z, q1, q2)) := ⟨_, _, _, rfl⟩
  have hr2 : Hid ((if q1 ≠ 0 then (q1, q2) else if z ≠ -1 then ((11 : Int), z) else (0, 0)) = (r1, r2)) := by have := hr.out; rw [proofR, hz.out] at this; exact this
  clear hr
  go_enter Try.func56, Try.ntmps56
  go_wp2_with fail
  refine (why_any _ _ _ _ _ _ xss rs vars _ (h.keep (below_alloc (below_new _ _) _)) hv (h'.keep (below_alloc (below_new _ _) _)) z q1 q2 hz).mono ?_
  rintro e w1 ⟨rfl, hb1⟩
  obtain ⟨K_c0, K_r0, B_w1, l_w1⟩ := two_blks hb1
  have KR := Lib.hid K_r0
  have HB1 := Lib.hid B_w1
  clear hb1 K_c0 K_r0 B_w1
  by_cases hq1 : q1 = 0
  · subst hq1
    have hz1 : z ≠ -1 := fun e => by have := hr2.out; rw [if_neg (by simp), if_neg (by simp [e])] at this; exact h0 (Prod.mk.inj this).1.symm
    obtain ⟨rfl, rfl⟩ : 11 = r1 ∧ z = r2 := by have := hr2.out; rw [if_neg (by simp), if_pos hz1] at this; simpa using this
    have d1 : (z == -1) = false := by rw [beq_eq_false_iff_ne]; exact hz1
    have d2 : (z != -1) = true := by simpa using hz1
    obtain ⟨q0, q9⟩ := KR.out.put2 (.int .i64 11) (.int .i64 z)
    have Q0 := Lib.hid q0
    have Q9 := Lib.hid q9
    have t0 := KR.out.cell 0
    have t1 := KR.out.cell 1
    have tf0 := KR.out.frozen 0
    have tf1 := KR.out.frozen 1
    simp at t0 t1
    have l3 := KR.out.lt
    have BF := Lib.hid (below_put2 HB1.out (g := w.heap.size + 1) (by omega) (.int .i64 11) (.int .i64 z))
    clear q0 q9
    go_wp2_with fail
    exact bodyPost_ret (v := .tuple #[.slice none 0 0, .slice none 0 0, .agg #[.int .i64 11, .int .i64 z]]) (by simp [results, Try.results56, go_sem, Q0.out, Q9.out, l3]) rfl ⟨rfl, below_alloc BF.out _⟩
  · obtain ⟨rfl, rfl⟩ : q1 = r1 ∧ q2 = r2 := by have := hr2.out; rw [if_pos hq1] at this; simpa using this
    have d1 : (q1 != 0) = true := by simpa using hq1
    have e0 := KR.out.cell 0
    have e1 := KR.out.cell 1
    have f0 := KR.out.frozen 0
    have f1 := KR.out.frozen 1
    simp at e0 e1
    have lr := KR.out.lt
    go_wp2_with fail
    go_region
    go_wp2_with fail
    refine bodyPost_ret (v := .tuple #[.slice none 0 0, .slice none 0 0, .agg #[.int .i64 q1, .int .i64 q2]]) (by simp [results, Try.results56, go_sem, e0, e1, lr]) rfl ⟨rfl, ?_⟩
    exact ((below_put2 HB1.out (g := w.heap.size + 1) (by omega) _ _).alloc (by simp; omega) _).drew

theorem whyS_parts {vars : Int} {xss : List (List Int)} {rs : List (Int × List Int)} {z r2 : Int} (h : whyS vars xss rs = (z, 0, r2)) : (stepsR vars xss rs).1 = 0 ∧ whyF vars rs.length xss rs 0 = z ∧ r2 = 0 := by
  rw [whyS] at h
  by_cases h1 : (stepsR vars xss rs).1 ≠ 0
  · rw [if_pos h1] at h; exfalso; apply h1; rw [(Prod.mk.inj h).2]
  · rw [if_neg h1] at h
    obtain ⟨h2, h3⟩ := Prod.mk.inj h
    exact ⟨by simpa using h1, h2, (Prod.mk.inj h3).2.symm⟩
theorem proofR_parts {vars : Int} {xss : List (List Int)} {rs : List (Int × List Int)} (h : proofR vars xss rs = (0, 0)) : whyS vars xss rs = (-1, 0, 0) ∧ (stepsR vars xss rs).1 = 0 ∧ whyF vars rs.length xss rs 0 = -1 := by
  obtain ⟨z, q1, q2, hz⟩ : ∃ z q1 q2, whyS vars xss rs = (z, q1, q2) := ⟨_, _, _, rfl⟩
  rw [proofR, hz] at h
  by_cases h1 : q1 = 0
  · subst h1
    by_cases h2 : z = -1
    · subst h2
      obtain ⟨g1, g2, g3⟩ := whyS_parts hz
      subst g3
      exact ⟨hz, g1, g2⟩
    · rw [if_neg (by simp), if_pos h2] at h
      simp at h
  · rw [if_pos h1] at h
    exact absurd (Prod.mk.inj h).1 h1

set_option maxHeartbeats 8000000 in
set_option maxRecDepth 100000 in
theorem required_own (A B : Option Addr) (n c m d : Nat) (xss : List (List Int)) (rs : List (Int × List Int)) (vars : Int) (w : World) (h : Grid w A n c xss) (hv : I64 vars) (h' : Steps w B m d rs) (hr : Hid (proofR vars xss rs = (0, 0))) (o : List Bool) (ho : Hid (wantedF vars xss rs = o)) :
    Calls Try.prog 56 #[.agg #[.int .i64 vars, .slice A n c], .slice B m d] w (RetReq (xss ++ learntF rs) o w) := by
  obtain ⟨hwhy, hst0, hacc⟩ := proofR_parts hr.out
  obtain ⟨_, hck, hm3, hrs⟩ := stepsR_ok hst0
  obtain ⟨_, v0, v1, hn400, hrows⟩ := checkC_ok hck
  obtain ⟨hfall, hany⟩ := why_row v0 rs xss xss 0 (fun c hc => (hrows c hc).2) (fun c hc => (hrows c hc).2) hrs (fun _ h => h) hacc
  obtain ⟨row, hrow⟩ : ∃ row, Hid (xss ++ learntF rs = row) := ⟨_, rfl⟩
  have hrl : Hid (∀ x ∈ row, Lits vars x) := fun x hx => by
    rw [← hrow.out] at hx
    rcases List.mem_append.1 hx with hx | hx
    · exact (hrows x hx).2
    · unfold learntF at hx
      obtain ⟨r, hr1, rfl⟩ := List.mem_map.1 hx
      exact (hrs r (List.mem_filter.1 hr1).1).2
  have hem : decide (0 ≤ emptyF row) = true := by unfold emptyF; rw [idxF_any, ← hrow.out]; exact hany
  have hem0 := of_decide_eq_true hem
  obtain ⟨fN, hfN⟩ : ∃ fN : Nat, emptyF row = (fN : Int) := ⟨(emptyF row).toNat, by omega⟩
  have HFN : Hid (idxF (fun x => x.isEmpty) row 0 = (fN : Int)) := hfN
  have hfl : fN < row.length := by
    rcases idxF_lt (fun x : List Int => x.isEmpty) row 0 with h3 | ⟨_, h3, _⟩
    · have := HFN.out; omega
    · have := HFN.out; omega
  have hWF : Hid (wantF vars row n (fN + 1) ((List.replicate row.length false).set fN true) = o) := by
    have := ho.out
    rw [wantedF, hrow.out, hfN, Int.toNat_natCast, h.len] at this
    exact this
  have hbd := h.bd
  have hbd' := h'.bd
  have hlen := Lib.hid h'.len
  have hlx := Lib.hid h.len
  have G := Lib.hid h
  have V := Lib.hid h'
  have HWS := Lib.hid hwhy
  have HRSL : Hid (∀ r ∈ rs, (r.1 = 1 ∨ r.1 = 2) ∧ Lits vars r.2) := hrs
  have hm3' : m ≤ 3000 := by have := hlen.out; omega
  have hn4 : n ≤ 400 := by have := hlx.out; omega
  have HLN : Hid (row.length ≤ 3400) := by
    show _ ≤ _
    rw [← hrow.out, List.length_append]
    have : (learntF rs).length ≤ rs.length := by unfold learntF; rw [List.length_map]; exact List.length_filter_le _ _
    omega
  have HFL := Lib.hid hfl
  obtain ⟨i0, hi0, hz0, hz1, hz2⟩ := info_parts row_info
  obtain ⟨ib, hib, hzb, hsb, hbb⟩ := info_parts bool_infoR
  obtain ⟨vs0, hvs0, hrp0⟩ := h.rowsP 3 (Nat.le_refl _)
  have HVS0 := Lib.hid hvs0
  have HRP0 := Lib.hid hrp0
  clear h h' hwhy hst0 hacc hck hrs hrows hfall hany hem hem0 hfN hfl hvs0 hrp0 hr ho hn400 hm3
  rw [hrow.out]
  go_enter Try.func56, Try.ntmps56
  go_wp2_with fail
  refine (why_any _ _ _ _ _ _ xss rs vars _ (G.out.keep (below_alloc (below_new _ _) _)) hv (V.out.keep (below_alloc (below_new _ _) _)) (-1) 0 0 HWS).mono ?_
  rintro e w1 ⟨rfl, hb1⟩
  obtain ⟨K_c0, K_r0, B_w1, l_w1⟩ := two_blks hb1
  have c0 := K_c0.cell 0
  have c1 := K_c0.cell 1
  simp at c0 c1
  have lc : w.heap.size < w1.heap.size := by omega
  have HB1 := Lib.hid B_w1
  have KC := Lib.hid K_c0
  have KR := Lib.hid K_r0
  clear hb1 K_c0 K_r0 B_w1
  obtain ⟨wa, hwa⟩ : ∃ wa : World, wa = w1.alloc (.cells #[.int .i64 0, .int .i64 0] 28) := ⟨_, rfl⟩
  have hbla : Hid (Below w1.heap.size w1 wa) := by rw [hwa]; exact below_new _ _
  have HB := Lib.hid (below_next HB1.out hbla.out)
  have HWA := Lib.hid hwa
  have hwa2 : Hid (w.heap.size + 2 ≤ wa.heap.size) := by have h1 := hbla.out.size; have h2 : wa.heap.size = w1.heap.size + 1 := by rw [hwa]; simp
                                                         show _ ≤ _; omega
  clear hwa
  go_wp2_with fail
  rw [← HWA.out]
  have hwsz := HB.out.size
  refine (clone_rows A n c w.heap.size xss wa vs0 (HVS0.out.keep HB.out) (HRP0.out.keep HB.out) (by omega) hwsz).mono ?_
  rintro e w2 ⟨L0, n0, cl0, rfl, hO0, hb2⟩
  have hl0 := hO0.len
  rw [hlx.out] at hl0
  subst hl0
  have O0 := Lib.hid hO0
  have B2 := Lib.hid hb2
  have hrow0 : Hid (xss ++ learntF (rs.drop 0) = row) := hrow
  clear HWA c0 c1 lc hO0 hb2 HVS0 HRP0
  go_wp2_with fail
  go_loopw [9, 36] (fun s9 s wr => ∃ (k nl cl : Nat) (L : Option Addr) (l : List (List Int)), k ≤ m ∧ s9 = .slice L nl cl ∧ s = .int .i64 k ∧ nl ≤ 400 + k ∧ Hid (OwnP 25 3 wr wa.heap.size w.heap.size L nl cl l) ∧ Hid (l ++ learntF (rs.drop k) = row) ∧ Hid (Below wa.heap.size wa wr)) (fun _ i _ => m - (intOf i).toNat)
  case atStart => exact ⟨0, n, cl0, L0, xss, Nat.zero_le _, rfl, rfl, by omega, O0, hrow0, B2⟩
  case round =>
    clear O0 B2 hrow0
    obtain ⟨k, nl, cl, L, l, hk, rfl, rfl, hnl, hO, hgo, hbl⟩ := hrel
    obtain ⟨hlnl, hlc, hlc2⟩ := hO.out.len'
    have hwr := hbl.out.size
    have HLNL := Lib.hid hlnl
    clear hlnl
    by_cases hlt : k < m
    · obtain ⟨b, off, kd, X, nx, cx, xs, X2, n2, c2, i3, i4, i5, X6, n6, c6, i7, i8, hBe, hb, s0, s1, s2, s3, s4, s5, s6, s7, s8, hkd, hxs, hrk⟩ := (V.out.keep (below_next HB.out hbl.out)).round hlt
      subst hBe
      have hAw : Away 3 w w.heap.size X nx := by
        obtain ⟨bb, oo, eB, hltb, hcc⟩ := V.out.at_ (by omega)
        cases eB
        obtain ⟨X', nx', cx', Xa, na, ca, j3, j4, j5, Xb, nb, cb, j7, j8, t0, t1, _, _, _, _, _, _, _, hI⟩ := hcc k _ hrk.out
        have e2 := keepBox (below_next HB.out hbl.out) t1
        rw [s1] at e2
        cases e2
        exact Away.old hI (Nat.le_refl _)
      have HAW := Lib.hid hAw
      obtain ⟨hkk, hxl⟩ := HRSL.out (kd, xs) (List.mem_of_getElem? hrk.out)
      have y1 : (0 : Int) ≤ (k : Int) := by omega
      have y2 : (k : Int) < (m : Int) := by omega
      have HXS := Lib.hid hxs
      have hgo2 : Hid (l ++ (if kd = 1 then xs :: learntF (rs.drop (k + 1)) else learntF (rs.drop (k + 1))) = row) := by have := hgo.out; rw [drop_cons_of hrk.out, learntF_cons] at this; exact this
      clear hxs hgo hxl hAw
      have hk12 : kd = 1 ∨ kd = 2 := hkk
      clear hkk
      rcases hk12 with rfl | rfl
      · have hgo3 : Hid ((l ++ [xs]) ++ learntF (rs.drop (k + 1)) = row) := by have := hgo2.out; rw [if_pos rfl] at this; simpa [Hid] using this
        obtain ⟨vs, hv1, hv2⟩ := hO.out
        obtain ⟨ws, hws⟩ : ∃ ws : World, ws = wr.alloc (.cells #[.int .i64 1, .slice X nx cx, .slice X2 n2 c2, .int .i64 i3, .int .i64 i4, .int .i64 i5, .slice X6 n6 c6, .int .i64 i7, .int .i64 i8] 102) := ⟨_, rfl⟩
        have hbs : Below wr.heap.size wr ws := by rw [hws]; exact below_new _ _
        have HWS2 := Lib.hid hws
        have HV1 := Lib.hid ((hv1.keep hbs).keep (below_new ws (.cells #[.slice X nx cx] 25)))
        have HV2 := Lib.hid ((hv2.keep hbs).keep (below_new ws (.cells #[.slice X nx cx] 25)))
        have hSS := sl_one ws 25 (.slice X nx cx) rfl
        have HSS := Lib.hid hSS
        have HBS := Lib.hid hbs
        have hzs : ws.heap.size = wr.heap.size + 1 := by rw [hws]; simp
        have HZS := Lib.hid hzs
        clear hv1 hv2 hbs hws hSS hgo2 hzs
        go_wp2_with (first
          | (at_builtin
             refine wpList_append_sl _ rfl (.tmp 43) (.tmp 46) _ rfl wa.heap.size 25 i0 _ 24 Try.underlying22 hi0 hz0 hz1 hz2 rfl L nl cl _ rfl (by rw [← HWS2.out]; exact HV1.out) (some ⟨wr.heap.size + 1, 0, none⟩) 1 1 _ rfl (by have h9 := HSS.out; rw [HZS.out, HWS2.out] at h9; exact h9) (by simp [Value.oneCell']) (by simp only [maxLen]; omega) (by omega) (by simp; omega) ?_
             intro L1 cL1 w6 hL1 hg1 hat1
             rw [← HWS2.out] at hg1
             have HP6 := Lib.hid (OwnP.push HV1.out HV2.out hwsz row_ne (HXS.out.keep (below_next HBS.out (below_new _ _))) (HAW.out.keep (below_next (below_next HB.out hbl.out) (below_next HBS.out (below_new _ _)))) hL1 hg1)
             have HB6 := Lib.hid (below_grown (below_alloc (below_next hbl.out HBS.out) (.cells #[.slice X nx cx] 25)) HV1.out (Nat.le_refl _) hg1)
             clear hL1 hg1 hat1))
        go_roundw
        case rel => exact ⟨k + 1, nl + 1, cL1, L1, l ++ [xs], by omega, rfl, by go_num, by omega, HP6, hgo3, HB6⟩
        case measure => simp [intOf] <;> omega
      · have hgo3 : Hid (l ++ learntF (rs.drop (k + 1)) = row) := by have := hgo2.out; rw [if_neg (by omega)] at this; exact this
        clear hgo2
        go_wp2_with fail
        go_roundw
        case rel => exact ⟨k + 1, nl, cl, L, l, by omega, rfl, by go_num, by omega, hO.out.keep (below_new _ _), hgo3, below_alloc hbl.out _⟩
        case measure => simp [intOf] <;> omega
    · obtain rfl : l = row := by have := hgo.out; rw [List.drop_of_length_le (by rw [hlen.out]; omega)] at this; simpa [learntF] using this
      have hfl2 : fN < nl := by have h1 := HLNL.out; have h2 := HFL.out; omega
      clear hgo
      go_wp2_with (first
        | (at_make
           refine wpList_make_full _ rfl (.tmp 50) (.tmp 50) 44 rfl wa.heap.size 4 ib _ 1 Try.underlying44 hib hzb hsb _ _ _ _ nl rfl rfl rfl rfl (by rw [hbb]; omega) (by simp only [maxLen]; omega) hwr ?_
           intro w5 hown5 hg5
           have OB5 : Hid (Own 4 w5 wa.heap.size (some ⟨wr.heap.size, 0, none⟩) nl nl ((List.replicate l.length false).map Value.bool)) := by
             rw [HLNL.out, List.map_replicate]
             have e : (madeCells (Value.bool false).cells (nl * 1)).toList = List.replicate nl (Value.bool false) := by rw [Nat.mul_one]; exact toList_madeCells_one _ _
             rw [← e]
             exact hown5
           have O5 := Lib.hid (hO.out.kept (t' := 4) hg5 (fun g hg => by cases hg) (by decide) (by decide))
           have B5 : Hid (Below wa.heap.size wa w5) := hbl.out.grown hg5 hwr (fun k hk => by cases hk)
           clear hown5 hg5))
      obtain ⟨gb, hgb⟩ : ∃ gb, gb = wr.heap.size := ⟨_, rfl⟩
      rw [← hgb] at OB5 ⊢
      clear hgb hO hbl
      have hgr5 := O5.out.grid
      have HP : Hid (PredR 88 #[] l (fun x => x.isEmpty) w5) := by
        intro V' Y ny cy y hV hy hm
        exact required1_any Y ny cy y V' hy
      refine (indexFunc_rows L nl cl l w5 hgr5 88 #[] enters_required1 (fun x => x.isEmpty) HP.out (fN : Int) HFN).mono ?_
      rintro e w6 ⟨rfl, hb6⟩
      have OB6 := Lib.hid (OB5.out.keep hb6)
      have O6 := Lib.hid (O5.out.keep hb6)
      have B6 := Lib.hid (below_next B5.out hb6)
      clear hb6 hgr5 OB5 O5 B5
      obtain ⟨g', u, hge, hgl, hgz, hgc, hgf, hgu⟩ := OB6.out.at_ hfl2
      cases hge
      have z1 : (0 : Int) ≤ (fN : Int) := by omega
      have z2 : (fN : Int) < (nl : Int) := by omega
      have OB7 : Hid (Own 4 (w6.setCell ⟨gb, fN, none⟩ (.bool true)) wa.heap.size (some ⟨gb, 0, none⟩) nl nl (((List.replicate l.length false).set fN true).map Value.bool)) := by
        rw [List.map_set]; exact OB6.out.set_ fN (.bool true)
      have O7 := Lib.hid (O6.out.kept (OB6.out.grown_set fN (.bool true)) (fun g hg => by cases hg; exact ⟨by omega, Typed.of_own OB6.out⟩) (by decide) (by decide))
      have B7 : Hid (Below wa.heap.size wa (w6.setCell ⟨gb, fN, none⟩ (.bool true))) := B6.out.setCell hgl _
      have hgzc : gb ≠ w.heap.size := by have := hwa2.out; omega
      go_wp2_with fail
      clear OB6 O6 B6 hgc hgf hgu HP HFN
      have hq0 : Hid (wantF vars l n (fN + 1) ((List.replicate l.length false).set fN true) = o) := hWF
      have hlen0 : Hid (((List.replicate l.length false).set fN true).length = nl) := by show _ = _; rw [List.length_set, List.length_replicate]; exact HLNL.out
      go_loopw [14] (fun s14 wz => ∃ (q : Nat) (o' : List Bool), q ≤ fN + 1 ∧ s14 = .int .i64 ((q : Int) - 1) ∧ Hid (Own 4 wz wa.heap.size (some ⟨gb, 0, none⟩) nl nl (o'.map Value.bool)) ∧ Hid (OwnP 25 3 wz wa.heap.size w.heap.size L nl cl l) ∧ Hid (Below wa.heap.size wa wz) ∧ Hid (wantF vars l n q o' = o)) (fun i _ => (intOf i + 1).toNat)
      case atStart => exact ⟨fN + 1, _, Nat.le_refl _, by go_num, OB7, O7, B7, hq0⟩
      case round =>
        clear OB7 O7 B7 hq0 hlen0
        obtain ⟨q, o', hq, rfl, hOb, hOz, hBz, hW⟩ := hrel
        obtain ⟨wz, hwz⟩ : ∃ wz : World, wz = wr := ⟨_, rfl⟩
        subst hwz
        have KCz := (KC.out.keep (below_next hbla.out hBz.out)).cell 1
        simp at KCz
        have zcz := (cell_lt KCz).1
        by_cases hend : q = 0 ∨ q ≤ n
        · obtain rfl : o' = o := by
            have := hW.out
            rcases hend with h0 | h0
            · subst h0; exact this
            · cases q with
              | zero => exact this
              | succ i => rw [wantF, if_pos (by omega)] at this; exact this
          have dend : ¬ (n : Int) ≤ (q : Int) - 1 := by omega
          clear hW
          have KRz := KR.out.keep (below_next hbla.out hBz.out)
          have e0 := KRz.cell 0
          have e1 := KRz.cell 1
          have f0 := KRz.frozen 0
          have f1 := KRz.frozen 1
          simp at e0 e1
          have lr := KRz.lt
          have SI : Hid ((wz.setCell ⟨w.heap.size + 1, 0, none⟩ (.int .i64 0)).setCell ⟨w.heap.size + 1, 1, none⟩ (.int .i64 0) = wz) := by rw [setCell_id KRz rfl, setCell_id KRz rfl]; rfl
          have BF := Lib.hid (below_next HB1.out (below_next hbla.out hBz.out))
          clear KRz
          go_wp2_with fail
          exact bodyPost_ret (v := .tuple #[.slice L nl cl, .slice (some ⟨gb, 0, none⟩) nl nl, .agg #[.int .i64 0, .int .i64 0]]) (by rw [SI.out]; simp [results, Try.results56, go_sem, e0, e1]) rfl (by rw [SI.out]; exact ⟨L, nl, cl, gb, rfl, hOz.out.mono hwa2.out (Nat.le_refl _), hOb.out.sl, BF.out⟩)
        · obtain ⟨i, rfl⟩ : ∃ i, q = i + 1 := ⟨q - 1, by omega⟩
          have hni : n ≤ i := by omega
          have hil : i < nl := by omega
          have ei : ((i + 1 : Nat) : Int) - 1 = (i : Int) := by omega
          rw [ei]
          obtain ⟨gx, u, hgx, hgl2, hgz2, hgc2, hgf2, hgu2⟩ := hOb.out.at_ hil
          cases hgx
          obtain ⟨bq, hbq, rfl⟩ : ∃ bq, o'[i]? = some bq ∧ Value.bool bq = u := by have := hgu2.out; rwa [List.getElem?_map, Option.map_eq_some_iff] at this
          have hW2 : Hid (wantF vars l n i (if bq = true then markF o' (causesF vars l i) else o') = o) := by
            have := hW.out
            rw [wantF, if_neg (by omega), List.getD_eq_getElem?_getD, hbq] at this
            exact this
          have z3 : (0 : Int) ≤ (i : Int) := by omega
          have z4 : (i : Int) < (nl : Int) := by omega
          have z5 : (n : Int) ≤ (i : Int) := by omega
          clear hW hbq hgu2
          cases bq
          · have hW3 : Hid (wantF vars l n i o' = o) := by simpa [Hid] using hW2.out
            clear hW2
            go_wp2_with fail
            go_roundw
            case rel => exact ⟨i, o', by omega, by go_num, hOb, hOz, hBz, hW3⟩
            case measure => simp [intOf] <;> omega
          · obtain ⟨ks, hks⟩ : ∃ ks, Hid (causesF vars l i = ks) := ⟨_, rfl⟩
            have hKR : Hid (∀ x ∈ ks, 0 ≤ x ∧ x < i) := fun x hx => causes_lt v0 hrl.out (i := i) (by rw [HLNL.out]; exact hil) x (by rw [hks.out]; exact hx)
            obtain ⟨oM, hoM⟩ : ∃ oM, Hid (markF o' ks = oM) := ⟨_, rfl⟩
            have hW3 : Hid (wantF vars l n i oM = o) := by have := hW2.out; rw [if_pos rfl, hks.out, hoM.out] at this; exact this
            have hgrz := Lib.hid hOz.out.grid
            clear hW2
            go_wp2_with fail
            refine (causes_any wz L nl cl l i vars hgrz.out hil v0 (by omega) hrl.out (by omega) ks hks).mono ?_
            rintro e w8 ⟨A8, n8, c8, rfl, hK8, hb8⟩
            have OK8 := Lib.hid hK8
            have OB8 := Lib.hid (hOb.out.keep hb8)
            have O8 := Lib.hid (hOz.out.keep hb8)
            have B8 := Lib.hid (below_next hBz.out hb8)
            have hn8 : n8 ≤ 9223372036854775807 := by have h1 := hK8.sl.le; have h2 := hK8.sl.cap; unfold maxLen at h2; omega
            have hoM0 : Hid (markF o' (ks.drop 0) = oM) := hoM
            clear hK8 hb8 hgrz KCz zcz hgc2 hgf2 hgz2 hOb hOz hBz
            go_wp2_with fail
            go_loopw [73] (fun s wy => ∃ (j : Nat) (o2 : List Bool), j ≤ n8 ∧ s = .int .i64 j ∧ Hid (Own 4 wy wa.heap.size (some ⟨gb, 0, none⟩) nl nl (o2.map Value.bool)) ∧ Hid (OwnP 25 3 wy wa.heap.size w.heap.size L nl cl l) ∧ Hid (Below wa.heap.size wa wy) ∧ Hid (Own 3 wy wz.heap.size A8 n8 c8 (ks.map (Value.int .i64))) ∧ Hid (markF o2 (ks.drop j) = oM)) (fun i _ => n8 - (intOf i).toNat)
            case atStart => exact ⟨0, o', Nat.zero_le _, rfl, OB8, O8, B8, OK8, hoM0⟩
            case round =>
              clear OB8 O8 B8 OK8 hoM0
              obtain ⟨j, o2, hj, rfl, hOb, hOz, hBz, hOk, hmk⟩ := hrel
              by_cases hjn : j < n8
              · obtain ⟨b5, off5, x, hAe, hbb5, hcell5, x1, x2, hxk⟩ := (hOk.out.ints (fun x hx => by have := hKR.out x hx; unfold I64; omega)).round hjn
                have hxr := hKR.out x (List.mem_of_getElem? hxk.out)
                obtain ⟨xN, rfl⟩ : ∃ xN : Nat, x = (xN : Int) := ⟨x.toNat, by omega⟩
                have hmk2 : Hid (markF (o2.set xN true) (ks.drop (j + 1)) = oM) := by have := hmk.out; rw [drop_cons_of hxk.out] at this; exact this
                obtain ⟨gy, u2, hgy, hgl3, hgz3, hgc3, hgf3, hgu3⟩ := hOb.out.at_ (k := xN) (by omega)
                cases hgy
                have OB9 : Hid (Own 4 (wr.setCell ⟨gb, xN, none⟩ (.bool true)) wa.heap.size (some ⟨gb, 0, none⟩) nl nl ((o2.set xN true).map Value.bool)) := by
                  rw [List.map_set]; exact hOb.out.set_ xN (.bool true)
                have O9 := Lib.hid (hOz.out.kept (hOb.out.grown_set xN (.bool true)) (fun g hg => by cases hg; exact ⟨by omega, Typed.of_own hOb.out⟩) (by decide) (by decide))
                have B9 : Hid (Below wa.heap.size wa (wr.setCell ⟨gb, xN, none⟩ (.bool true))) := hBz.out.setCell hgl3 _
                have OK9 := Lib.hid (hOk.out.kept (hOb.out.grown_set xN (.bool true)) (hOk.out.ne_typed (Typed.of_own hOb.out) (by decide)))
                have z6 : (0 : Int) ≤ (xN : Int) := by omega
                have z7 : (xN : Int) < (nl : Int) := by omega
                have z8 : (0 : Int) ≤ (j : Int) := by omega
                have z9 : (j : Int) < (n8 : Int) := by omega
                subst hAe
                clear hmk hxk hgu3
                go_wp2_with fail
                go_roundw
                case rel => exact ⟨j + 1, o2.set xN true, by omega, by go_num, OB9, O9, B9, OK9, hmk2⟩
                case measure => simp [intOf] <;> omega
              · obtain rfl : o2 = oM := by have := hmk.out; rw [List.drop_of_length_le (by have := hOk.out.len; rw [List.length_map] at this; omega)] at this; exact this
                clear hmk
                go_wp2_with fail
                go_roundw
                case rel => exact ⟨i, o2, by omega, by go_num, hOb, hOz, hBz, hW3⟩
                case measure => simp [intOf] <;> omega
end Go.Proofs.Ytabjbpkojbdgaaa
