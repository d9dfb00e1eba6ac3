/- Contracts of trim's causes: the clauses that make a clause fall. -/
import Derived.Test.YtabjbpkojbdgaaaTrimPlain
import Derived.Test.YtabjbpkojbdgaaaUnitRun
import Derived.Test.YtabjbpkojbdgaaaSnocG
import Derived.StillTailTactics
namespace Go.Proofs.Ytabjbpkojbdgaaa
open Go.RowKit Go.Maps Go.WideMaps
set_option linter.unusedSimpArgs false

theorem grown_trans {w1 w2 w3 : World} {row : Option Nat} (h : w1.grownBy w2 row) (h' : w2.grownBy w3 row) : w1.grownBy w3 row :=
  ⟨h'.1.trans h.1, h'.2.trans h.2, h'.3.trans h.3, Nat.le_trans h.size h'.size, fun k hk hr => (h'.block k (Nat.lt_of_lt_of_le hk h.size) hr).trans (h.block k hk hr)⟩
theorem grown_below {w1 w2 : World} {row : Option Nat} (h : Below w1.heap.size w1 w2) : w1.grownBy w2 row :=
  ⟨h.1, h.2, h.3, h.size, fun k hk _ => h.block k hk⟩
theorem MapI.kept {w w' : World} {b n : Nat} {D : DataW Unit} {row : Option Nat} (h : MapI w b n D) (hg : w.grownBy w' row) (hne : some b ≠ row) : MapI w' b n D := by
  have hlt := World.ownsMap.lt h
  obtain ⟨es, clock, h1, F, hs, hD⟩ := h
  exact ⟨es, clock, (hg.block b hlt hne).trans h1, F, hs, hD⟩
theorem var_still (x : Int) (w : World) (h1 : -9223372036854775807 ≤ x) (h2 : x ≤ 9223372036854775807) : Calls Try.prog 100 #[.int .i64 x] w (fun e w' => e = .returned (.int .i64 x.natAbs) ∧ w' = w) := by
  go_enter Try.func100, Try.ntmps100
  go_wp2_with fail
  all_goals
    go_ret
    exact ⟨congrArg Ending.returned (by show Value.int _ _ = Value.int _ _; congr 1; omega), rfl⟩
/-- The variables of literals. -/
def absL (xs : List Int) : List Int := xs.map (fun x => (x.natAbs : Int))
def RetNote (gm k : Nat) (zs xs : List Int) (W : World) (e : Ending) (w' : World) : Prop :=
  e = .returned (.tuple #[]) ∧ ∃ k' D', k' ≤ k + xs.length ∧ MapI w' gm k' D' ∧ MapHas D' (zs ++ absL xs) ∧ W.grownBy w' (some gm)

set_option maxHeartbeats 2000000 in
set_option maxRecDepth 100000 in
theorem note_any (W0 W : World) (b2 b9 gm k : Nat) (A : Option Addr) (n c : Nat) (row : List (List Int)) (D : DataW Unit) (zs xs : List Int) (j : Nat) (hg : Grid W0 A n c row) (h2 : W0.cell? ⟨b2, 0, none⟩ = some (.slice A n c)) (hbw : Below W0.heap.size W0 W) (hgm : W0.heap.size ≤ gm)
    (h9 : Blk W b9 88 #[.map (some gm)]) (hm : MapI W gm k D) (hD : MapHas D zs) (hx : Hid (row[j]? = some xs)) (hb : ∀ x ∈ xs, -1000000 ≤ x ∧ x ≤ 1000000) (hk : k + xs.length ≤ 100000000) :
    Calls Try.prog 106 #[.int .i64 j, .pointer (some ⟨b2, 0, none⟩), .pointer (some ⟨b9, 0, none⟩)] W (RetNote gm k zs xs W) := by
  have hjn : j < n := by rw [← hg.len]; exact (List.getElem?_eq_some_iff.1 hx.out).1
  obtain ⟨b3, off3, A3, n3, c3, xs3, hA3, hb3, hcell3, hx3, hxk3⟩ := hg.round hjn
  obtain rfl : xs = xs3 := by have := hxk3.out; rw [hx.out] at this; injection this
  have hlen3 : Hid (xs.length = n3) := hx3.len
  have HX3 := Lib.hid hx3
  have HBW := Lib.hid hbw
  have HBX := Lib.hid hb
  have H9 := Lib.hid h9
  have HM := Lib.hid hm
  have HD := Lib.hid hD
  have hne9 : b9 ≠ gm := blk_map_ne h9 hm
  have e2 := keepBox hbw h2
  have e3 := keepBox hbw hcell3
  have z2 := (cell_lt e2).1
  have z3 := (cell_lt e3).1
  have hn3b : n3 ≤ 100000000 := by rw [← hx3.len]; omega
  subst hA3
  have u1 : (0 : Int) ≤ (j : Int) := by omega
  have u2 : (j : Int) < (n : Int) := by omega
  clear hg h2 hbw hx hb hxk3 hx3 hcell3 h9 hm hD
  go_enter Try.func106, Try.ntmps106
  go_wp2_with fail
  go_loopw [11] (fun i wr => ∃ (q k' : Nat) (D' : DataW Unit), q ≤ n3 ∧ k' ≤ k + q ∧ i = .int .i64 q ∧ Hid (MapI wr gm k' D') ∧ Hid (MapHas D' (zs ++ absL (xs.take q))) ∧ Hid (W.grownBy wr (some gm))) (fun i _ => n3 - (intOf i).toNat)
  case atStart => exact ⟨0, k, D, Nat.zero_le _, by omega, rfl, HM, by simpa [absL, Hid] using HD.out, World.grownBy.refl _ _⟩
  case round =>
    obtain ⟨q, k', D', hq, hk', rfl, hM, hDD, hG⟩ := hrel
    by_cases hqn : q < n3
    · have HBR : Hid (Below W0.heap.size W0 wr) := HBW.out.grown hG.out HBW.out.size (fun g hg => by cases hg; exact hgm)
      have K9 := Lib.hid (H9.out.grown hG.out (by intro e; injection e with e; exact hne9 e))
      obtain ⟨b5, off5, x, hAe, hbb, hcell5, x1, x2, hxk⟩ := (HX3.out.keep HBR.out).round hqn
      have hxb := HBX.out x (List.mem_of_getElem? hxk.out)
      subst hAe
      have hkey := keyOf_int_mk (P := Try.prog) Try.underlying3 (show (Lit.int .i64 (x.natAbs : Int)).wf = true from WalkArith.wf_i64 (by omega))
      go_wp2_with fail
      refine wp_region_still_tail 3 (by kernel_rfl) (by kernel_rfl) ?_
      obtain ⟨wd, hwd⟩ : ∃ wd : World, wd = wr.drew := ⟨_, rfl⟩
      have hbd : Below wr.heap.size wr wd := by rw [hwd]; exact below_drewN _ 1
      have hMd := hM.out.keep hbd
      have e9 := (K9.out.keep hbd).cell 0
      simp at e9
      have HGd := Lib.hid (grown_trans hG.out (grown_below hbd))
      change wpStill _ _ wr.drew (fun a' => wpList _ _ _ _ a' wr.drew) _ _
      rw [← hwd]
      clear hwd hbd
      simp only [List.take_succ_cons, List.take_zero, List.drop_succ_cons, List.drop_zero]
      still_step
      still_step
      still_call (var_still x _ (by omega) (by omega))
      refine wpStill_nil ?_
      go_wp2_with (first | (at_mapUpdate; refine wpList_mapUpdate_own _ rfl _ _ _ 88 rfl 3 4 keyed_int Try.underlying88 (plainElem (H := Unit) Try.prog 4) gm k' D' rfl hMd (by unfold maxLen; omega) _ _ _ rfl rfl hkey _ [] (plainElem_bool Try.underlying4 true) ?_; intro w5 hown1 hgrow1))
      go_roundw
      case rel =>
        refine ⟨q + 1, k' + 1, _, by omega, by omega, by go_num, hown1, ?_, grown_trans HGd.out hgrow1⟩
        have := MapHas.put hM.out hDD.out (x.natAbs : Int)
        rw [Hid, take_snoc_of hxk.out, absL, List.map_append, ← List.append_assoc]
        exact this
      case measure => simp [intOf] <;> omega
    · have hfin : Hid (MapHas D' (zs ++ absL xs)) := by have := hDD.out; rw [List.take_of_length_le (by rw [hlen3.out]; omega)] at this; exact this
      go_wp2_with fail
      go_end0
      exact ⟨rfl, k', D', by rw [hlen3.out]; omega, hM.out, hfin.out, hG.out⟩

/-- The variables of the clauses out. -/
def varsL (row : List (List Int)) (out : List Int) : List Int := out.flatMap (fun j => absL (row.getD j.toNat []))
theorem absL_has (xs : List Int) (x : Int) : hasB (absL xs) (x.natAbs : Int) = xs.any (fun u => u.natAbs == x.natAbs) := by
  rw [Bool.eq_iff_iff, hasB_iff, List.any_eq_true]
  unfold absL
  rw [List.mem_map]
  exact ⟨fun ⟨u, hu, e⟩ => ⟨u, hu, by simp; omega⟩, fun ⟨u, hu, e⟩ => ⟨u, hu, by simp at e; omega⟩⟩
theorem varsL_noted (row : List (List Int)) (out : List Int) (x : Int) : hasB (varsL row out) (x.natAbs : Int) = notedB row out x := by
  unfold varsL notedB
  induction out with
  | nil => rfl
  | cons j r ih => rw [List.flatMap_cons, hasB_append, ih, List.any_cons, absL_has]
theorem varsL_snoc (row : List (List Int)) (out : List Int) (j : Int) : varsL row (out ++ [j]) = varsL row out ++ absL (row.getD j.toNat []) := by
  unfold varsL
  rw [List.flatMap_append]
  simp

set_option maxHeartbeats 8000000 in
set_option maxRecDepth 100000 in
theorem causes_any (W : World) (A : Option Addr) (n c : Nat) (row : List (List Int)) (i : Nat) (vars : Int) (hg : Grid W A n c row) (hi : i < n) (v0 : 0 ≤ vars) (v1 : vars ≤ 1000) (hc : ∀ x ∈ row, Lits vars x) (hn : n ≤ 1000000) (R : List Int) (hR : Hid (causesF vars row i = R)) :
    Calls Try.prog 89 #[.slice A n c, .int .i64 i] W (RetInts R W) := by
  obtain ⟨w0, hw0⟩ : ∃ w0 : World, w0 = W.alloc (.cells #[.slice A n c] 22) := ⟨_, rfl⟩
  have HB0 : Hid (Below W.heap.size W w0) := by rw [hw0]; exact below_new _ _
  have K2 : Hid (Blk w0 W.heap.size 22 #[.slice A n c]) := by rw [hw0]; exact Blk.new _ _ _
  have HW0 := Lib.hid hw0
  have G0 := Lib.hid (hg.keep HB0.out)
  obtain ⟨b1, off1, A1, n1, c1, xs, hA1, hb1, hcell1, hx1, hxk1⟩ := hg.round hi
  have hrow : Hid (row.getD i [] = xs) := by rw [List.getD_eq_getElem?_getD, hxk1.out]; rfl
  have HXL : Hid (Lits vars xs) := hc xs (List.mem_of_getElem? hxk1.out)
  have HX1 := Lib.hid (hx1.keep HB0.out)
  have HC := Lib.hid hc
  have HXB : Hid (∀ x ∈ xs, -1000000 ≤ x ∧ x ≤ 1000000) := fun x hx => by have := HXL.out.1 x hx; omega
  have hn1 : n1 ≤ 1000000 := by have := HXL.out.len_le v0; rw [hx1.len] at this; omega
  have hbd := hg.bd
  have k2 := K2.out.cell 0
  simp at k2
  have z2 := K2.out.lt
  obtain ⟨t, y, a, hta⟩ : ∃ t y a, Hid (askF vars (row.take i) (negF xs) = (t, y, a)) := ⟨_, _, _, rfl⟩
  have HTK : Hid (∀ x ∈ row.take i, Lits vars x) := fun x hx => HC.out x (List.mem_of_mem_take hx)
  have v6 : vars ≤ 1000000 := by omega
  have HOK := Lib.hid (runF_ok v0 HTK.out (vars.toNat + 1) (negF xs) ((negF xs).map fun _ => -1) HXL.out.neg (by omega))
  have HCL := Lib.hid (causes_lt v0 HC.out (i := i) (by rw [hg.len]; exact hi))
  have HHT : Hid (Lits vars t ∧ y.length = t.length ∧ ((∀ k ∈ y, -1 ≤ k ∧ k < (row.take i).length)) ∧ (0 ≤ a → a < (row.take i).length) ∧ (a = -1 ∨ 0 ≤ a)) := by
    have ok := HOK.out
    have h9 := hta.out
    unfold askF at h9
    rw [h9] at ok
    exact ⟨ok.lits, ok.same (by simp), ok.why (fun k hk => by rw [List.mem_map] at hk; obtain ⟨_, _, rfl⟩ := hk; omega), ok.bad, ok.at_⟩
  have hti : (row.take i).length = i := by rw [List.length_take, hg.len]; omega
  rw [hti] at HHT
  have HRC : Hid ((if a < 0 then [] else cauF row t y t.length [a]) = R) := by have := hR.out; rw [causesF, hrow.out, hta.out] at this; exact this
  subst hA1
  have u1 : (0 : Int) ≤ (i : Int) := by omega
  have u2 : (i : Int) < (n : Int) := by omega
  have u3 : (i : Int) ≤ (c : Int) := by omega
  have u4 : ¬ (c : Int) < (i : Int) := by omega
  clear hw0 hx1 hxk1 hc hg hR HOK hti
  go_enter Try.func89, Try.ntmps89
  go_wp2_with fail
  rw [← HW0.out]
  refine (negated_any _ _ _ xs w0 HX1.out HXB.out hn1).mono ?_
  rintro e w1 ⟨L1, nL, cL, rfl, hown1, hb1'⟩
  have HI1 := Lib.hid (hown1.ints (negF_i64 v6 HXL.out))
  have G1 := Lib.hid ((G0.out.keep hb1').take (k := i) (by omega))
  have HB1 := Lib.hid (below_next HB0.out hb1')
  have HB01 := Lib.hid hb1'
  clear k2 z2 hcell1
  have k2 := keepBox hb1' (K2.out.cell 0)
  simp at k2
  have z2 := (cell_lt k2).1
  clear hown1 hb1'
  go_wp2_with fail
  refine (assume_any _ _ _ _ _ _ (row.take i) (negF xs) vars w1 G1.out HI1.out v0 v6 HTK.out HXL.out.neg t y a hta).mono ?_
  rintro e w2 ⟨g, gm, L, cl, Y, cy, D, rfl, hst⟩
  have HST := Lib.hid hst
  have HB2 := Lib.hid (below_next HB1.out hst.bl)
  have HB02 := Lib.hid (below_next HB01.out hst.bl)
  have HTI : Hid (∀ x ∈ t, I64 x) := fun x hx => by have := HHT.out.1.1 x hx; unfold I64; omega
  have HYI : Hid (∀ x ∈ y, I64 x) := fun x hx => by have := HHT.out.2.2.1 x hx; unfold I64; omega
  clear hst HB1 k2 z2
  by_cases ha : a < 0
  · obtain rfl : [] = R := by have := HRC.out; rw [if_pos ha] at this; exact this
    go_wp2_with fail
    go_ret
    exact ⟨none, 0, 0, rfl, Own.nil _ _ _, HB2.out⟩
  obtain ⟨aN, rfl⟩ : ∃ aN : Nat, a = (aN : Int) := ⟨a.toNat, by omega⟩
  have dan : decide ((aN : Int) < 0) = false := decide_eq_false (by omega)
  have haN : aN < i := by have := HHT.out.2.2.2.1 (by omega); omega
  have HRC2 : Hid (cauF row t y t.length [(aN : Int)] = R) := by have := HRC.out; rw [if_neg ha] at this; exact this
  obtain ⟨xa, hxa⟩ : ∃ xa, Hid (row[aN]? = some xa) := ⟨_, List.getElem?_eq_getElem (by rw [G0.out.len]; omega)⟩
  have HXA : Hid (Lits vars xa) := HC.out _ (List.mem_of_getElem? hxa.out)
  have hxal : xa.length ≤ 1000 := by have := HXA.out.len_le v0; omega
  have HTL : Hid (t.length ≤ 1000) := by have := HHT.out.1.len_le v0; show _ ≤ _; omega
  have hmm := @run_makeMap Try.prog
  obtain ⟨i0, hi0, hz0, hz1, hz2⟩ := info_parts int_info
  go_wp2_with fail
  obtain ⟨w3, hw3⟩ : ∃ w3 : World, w3 = ((w2.alloc (.cells #[.int .i64 (aN : Int)] 3)).alloc (.map #[] 0)).alloc (.cells #[.map (some (w2.heap.size + 1))] 88) := ⟨_, rfl⟩
  have hb23 : Below w2.heap.size w2 w3 := by rw [hw3]; exact below_alloc (below_alloc (below_new _ _) _) _
  have OO : Hid (Own 3 w3 w2.heap.size (some ⟨w2.heap.size, 0, none⟩) 1 1 ([(aN : Int)].map (Value.int .i64))) := by
    rw [hw3]
    have := own_new 3 w2 w2.heap.size ([(aN : Int)].map (Value.int .i64)) (b := w2.heap.size) rfl (Nat.le_refl _) (by simp [maxLen])
    exact (this.keep (below_new _ _)).keep (below_new _ _)
  have MM : Hid (MapI w3 (w2.heap.size + 1) 0 (.map [])) := by
    rw [hw3]
    have := World.ownsMap_made (H := Unit) (w2.alloc (.cells #[.int .i64 (aN : Int)] 3)) Try.prog 3 (plainElem Try.prog 4)
    have h2 : MapI ((w2.alloc (.cells #[.int .i64 (aN : Int)] 3)).alloc (.map #[] 0)) (w2.heap.size + 1) 0 (.map []) := by simpa [MapI] using this
    exact h2.keep (below_new _ _)
  have K9 : Hid (Blk w3 (w2.heap.size + 1 + 1) 88 #[.map (some (w2.heap.size + 1))]) := by
    rw [hw3]
    have := Blk.new ((w2.alloc (.cells #[.int .i64 (aN : Int)] 3)).alloc (.map #[] 0)) 88 #[.map (some (w2.heap.size + 1))]
    simpa [Hid] using this
  rw [← hw3]
  obtain ⟨gm2, hgm2⟩ : ∃ q, q = w2.heap.size + 1 := ⟨_, rfl⟩
  obtain ⟨b9, hb9⟩ : ∃ q, q = w2.heap.size + 1 + 1 := ⟨_, rfl⟩
  rw [← hb9] at K9 ⊢
  rw [← hgm2] at MM K9
  have hgl : w2.heap.size ≤ gm2 := by omega
  have HBC := Lib.hid hb23
  have hw02 := HB02.out.size
  clear hw3 hb23 hgm2 hb9 hmm
  refine (note_any w0 w3 W.heap.size b9 gm2 0 _ n c row _ [] xa aN G0.out (by have := K2.out.cell 0; simpa using this) (below_next HB02.out HBC.out) (by omega) K9.out MM.out (fun x => rfl) hxa (fun x hx => by have := HXA.out.1 x hx; omega) (by omega)).mono ?_
  rintro e w4 ⟨rfl, k4, D4, hk4, hM4, hD4, hG4⟩
  have HM4 := Lib.hid hM4
  have HD4 : Hid (MapHas D4 (varsL row [(aN : Int)])) := by
    have e : varsL row [(aN : Int)] = [] ++ absL xa := by
      have h9 : row.getD aN [] = xa := by rw [List.getD_eq_getElem?_getD, hxa.out]; rfl
      unfold varsL
      simp only [List.flatMap_cons, List.flatMap_nil, List.append_nil, List.nil_append, Int.toNat_natCast]
      rw [h9]
    rw [e]; exact hD4
  have HK9 := Lib.hid (K9.out.grown hG4 (fun e => blk_map_ne K9.out MM.out (by injection e)))
  have HO4 := Lib.hid (OO.out.kept hG4 (.inr (own_map_ne OO.out MM.out)))
  have HBD : Hid (Below w2.heap.size w2 w4) := HBC.out.grown hG4 HBC.out.size (fun k hk => by cases hk; exact hgl)
  have hTB := (HST.out.tb.keep HBD.out)
  have c1' := hTB.cell 1
  simp at c1'
  have zg := hTB.lt
  clear hM4 hD4 hG4 OO MM K9 HBC hTB
  have hk4b : k4 ≤ 1000 := by omega
  have tl0 : t.length ≤ 1000 := HTL.out
  go_wp2_with fail
  go_loopw [8, 11] (fun s8 s11 wr => ∃ (k km n8 c8 : Nat) (A8 : Option Addr) (out : List Int) (D' : DataW Unit), k ≤ t.length ∧ n8 + k ≤ t.length + 1 ∧ km ≤ 1000 * n8 ∧ s8 = .slice A8 n8 c8 ∧ s11 = .int .i64 ((k : Int) - 1) ∧ Hid (Own 3 wr w2.heap.size A8 n8 c8 (out.map (Value.int .i64))) ∧ Hid (MapI wr gm2 km D') ∧ Hid (MapHas D' (varsL row out)) ∧ Hid (Blk wr b9 88 #[.map (some gm2)]) ∧ Hid (Below w2.heap.size w2 wr) ∧ Hid (cauF row t y k out = R)) (fun _ i _ => (intOf i + 1).toNat)
  case atStart => exact ⟨t.length, k4, 1, 1, _, [(aN : Int)], D4, Nat.le_refl _, by omega, by omega, rfl, by go_num, HO4, HM4, HD4, HK9, HBD, HRC2⟩
  case round =>
    clear HM4 HD4 HK9 HO4 HBD HRC2 c1' zg
    obtain ⟨k, km, n8, c8, A8, out, D', hk, hn8, hkm, rfl, rfl, hO, hM, hD, h9, hB, hcau⟩ := hrel
    have tl := HTL.out
    by_cases hk0 : k = 0
    · subst hk0
      obtain rfl : out = R := hcau.out
      have BW := Lib.hid (below_next HB2.out hB.out)
      have HOW := Lib.hid (hO.out.mono (base' := W.heap.size) HB2.out.size)
      clear hcau
      go_wp2_with fail
      go_ret
      exact ⟨A8, n8, c8, rfl, HOW.out, BW.out⟩
    · obtain ⟨j, rfl⟩ : ∃ j, k = j + 1 := ⟨k - 1, by omega⟩
      have hTB := Lib.hid (HST.out.tb.keep hB.out)
      have t1 := hTB.out.cell 1
      have t2 := hTB.out.cell 2
      simp at t1 t2
      have zg := hTB.out.lt
      have hLI := (HST.out.lits.keep hB.out).ints HTI.out
      have hYI := (HST.out.why.keep hB.out).ints HYI.out
      obtain ⟨bt, offt, x, hLe, hbt, hcellt, xx1, xx2, hxk⟩ := hLI.round (k := j) (by omega)
      obtain ⟨by', offy, q, hYe, hby, hcelly, qq1, qq2, hqk⟩ := hYI.round (k := j) (by rw [HHT.out.2.1]; omega)
      have hqr := HHT.out.2.2.1 q (List.mem_of_getElem? hqk.out)
      have hxr := HHT.out.1.1 x (List.mem_of_getElem? hxk.out)
      have hst : Hid ((if 0 ≤ q ∧ notedB row out x = true then cauF row t y j (out ++ [q]) else cauF row t y j out) = R) := by
        have := hcau.out
        rw [cauF, List.getD_eq_getElem?_getD, List.getD_eq_getElem?_getD, hqk.out, hxk.out] at this
        exact this
      have e9 := h9.out.cell 0
      simp at e9
      have z9 := h9.out.lt
      have ej : ((j + 1 : Nat) : Int) - 1 = (j : Int) := by omega
      rw [ej]
      have uj1 : (0 : Int) ≤ (j : Int) := by omega
      have uj2 : (j : Int) < (t.length : Int) := by omega
      have uj3 : (j : Int) < (y.length : Int) := by rw [HHT.out.2.1]; omega
      have hyl : y.length ≤ 1000 := by rw [HHT.out.2.1]; exact tl
      cases hLe
      cases hYe
      clear hcau hxk hqk hLI hYI hbt hby
      obtain ⟨nb, hnb⟩ : ∃ nb, Hid (notedB row out x = nb) := ⟨_, rfl⟩
      have lk : ∀ m, (Instr.lookup 88 (.map (some gm2)) (.int .i64 (x.natAbs : Int)) false).run Try.prog (wr.drewN m) = .ok (.bool nb) (wr.drewN m) := fun m => by
        have := look_has (hM.out.keep (below_drewN wr m)) hD.out (x := (x.natAbs : Int)) (by unfold I64; omega)
        rw [varsL_noted, hnb.out] at this
        exact this
      have NEXT : Hid ((if 0 ≤ q ∧ nb = true then cauF row t y j (out ++ [q]) else cauF row t y j out) = R) := by rw [← hnb.out]; exact hst
      clear hst
      by_cases hq0 : q < 0
      · have hst2 : Hid (cauF row t y j out = R) := by have := NEXT.out; rw [if_neg (by omega)] at this; exact this
        obtain rfl : q = -1 := by omega
        clear NEXT
        go_wp2_with fail
        go_quiet (fail)
        go_wp2_with fail
        go_roundw
        case rel => exact ⟨j, km, n8, c8, A8, out, D', by omega, by omega, by omega, rfl, by go_num, hO.out.keep (below_drewN _ _), hM.out.keep (below_drewN _ _), hD, h9.out.keep (below_drewN _ _), below_next hB.out (below_drewN _ _), hst2⟩
        case measure => simp [intOf] <;> omega
      · cases nb
        · have hst2 : Hid (cauF row t y j out = R) := by have := NEXT.out; rw [if_neg (by simp)] at this; exact this
          clear NEXT
          go_wp2_with fail
          go_quiet ((go_at_call 100; exact RetQ.quiet (var_any x _ (by omega) (by omega))))
          go_wp2_with fail
          go_roundw
          case rel => exact ⟨j, km, n8, c8, A8, out, D', by omega, by omega, by omega, rfl, by go_num, hO.out.keep (below_drewN _ _), hM.out.keep (below_drewN _ _), hD, h9.out.keep (below_drewN _ _), below_next hB.out (below_drewN _ _), hst2⟩
          case measure => simp [intOf] <;> omega
        · have hst2 : Hid (cauF row t y j (out ++ [q]) = R) := by have := NEXT.out; rw [if_pos ⟨by omega, rfl⟩] at this; exact this
          clear NEXT
          obtain ⟨Q, rfl⟩ : ∃ Q : Nat, q = (Q : Int) := ⟨q.toNat, by omega⟩
          obtain ⟨xq, hxq⟩ : ∃ xq, Hid (row[Q]? = some xq) := ⟨_, List.getElem?_eq_getElem (by rw [G0.out.len]; omega)⟩
          have HXQ : Hid (Lits vars xq) := HC.out _ (List.mem_of_getElem? hxq.out)
          have hxql : xq.length ≤ 1000 := by have := HXQ.out.len_le v0; omega
          go_wp2_with fail
          go_quiet ((go_at_call 100; exact RetQ.quiet (var_any x _ (by omega) (by omega))))
          obtain ⟨wq, hwq⟩ : ∃ wq : World, wq = wr.drewN nq := ⟨_, rfl⟩
          have hbq : Below wr.heap.size wr wq := by rw [hwq]; exact below_drewN _ _
          (try rw [← hwq])
          have HOQ := Lib.hid (hO.out.keep hbq)
          have HMQ := Lib.hid (hM.out.keep hbq)
          have H9Q := Lib.hid (h9.out.keep hbq)
          have HBQ := Lib.hid (below_next hB.out hbq)
          have hqz := HBQ.out.size
          have hS := ints_made wq 3 [(Q : Int)] rfl (by simp [I64]; omega) (by simp [maxLen])
          clear hwq hbq t1 t2 zg e9 z9 lk hcellt hcelly hTB hO hM h9 hB
          go_wp2_with (first
            | (at_builtin
               refine wpList_append_sl _ rfl (.tmp 66) (.tmp 68) _ rfl w2.heap.size 3 i0 _ 8 Try.underlying25 hi0 hz0 hz1 hz2 rfl A8 n8 c8 _ rfl (HOQ.out.keep (below_new _ _)) (some ⟨wq.heap.size, 0, none⟩) 1 1 _ rfl hS.sl (ints_one _) (by simp only [maxLen]; omega) (by omega) (by simp; omega) ?_
               intro L8 cL8 w9 hL8 hg8 hat8
               have HL8 : Hid (Own 3 w9 w2.heap.size L8 (n8 + 1) cL8 ((out ++ [(Q : Int)]).map (Value.int .i64))) := by rw [Hid, List.map_append]; exact hL8
               have HB9 : Hid (Below w2.heap.size w2 w9) := below_grown (below_alloc HBQ.out (.cells #[.int .i64 (Q : Int)] 3)) (HOQ.out.keep (below_new wq (.cells #[.int .i64 (Q : Int)] 3))) (Nat.le_refl _) hg8
               have HM9 := Lib.hid ((HMQ.out.keep (below_new wq (.cells #[.int .i64 (Q : Int)] 3))).kept hg8 (fun e => own_map_ne HOQ.out HMQ.out e.symm))
               have H99 : Hid (Blk w9 b9 88 #[.map (some gm2)]) := by
                 refine (H9Q.out.alloc (.cells #[.int .i64 (Q : Int)] 3)).grown hg8 (fun e => ?_)
                 rcases HOQ.out.ne_typed (Typed.of_blk H9Q.out) (by decide) with h | h
                 · rw [h] at e; cases e
                 · exact h e.symm
               clear hL8 hg8 hat8))
          have hw02 := HB02.out.size
          refine (note_any w0 w9 W.heap.size b9 gm2 km _ n c row D' (varsL row out) xq Q G0.out (by have := K2.out.cell 0; simpa using this) (below_next HB02.out HB9.out) (by omega) H99.out HM9.out hD.out hxq (fun x hx => by have := HXQ.out.1 x hx; omega) (by omega)).mono ?_
          rintro e w10 ⟨rfl, k10, D10, hk10, hM10, hD10, hG10⟩
          have HM10 := Lib.hid hM10
          have HD10 : Hid (MapHas D10 (varsL row (out ++ [(Q : Int)]))) := by
            have h9 : row.getD Q [] = xq := by rw [List.getD_eq_getElem?_getD, hxq.out]; rfl
            rw [Hid, varsL_snoc, Int.toNat_natCast, h9]
            exact hD10
          have HK10 := Lib.hid (H99.out.grown hG10 (fun e => blk_map_ne H99.out HM9.out (by injection e)))
          have HO10 := Lib.hid (HL8.out.kept hG10 (.inr (own_map_ne HL8.out HM9.out)))
          have HB10 : Hid (Below w2.heap.size w2 w10) := HB9.out.grown hG10 HB9.out.size (fun k hk => by cases hk; exact hgl)
          clear hM10 hD10 hG10
          go_wp2_with fail
          go_roundw
          case rel => exact ⟨j, k10, n8 + 1, cL8, L8, out ++ [(Q : Int)], D10, by omega, by omega, by omega, rfl, by go_num, HO10, HM10, HD10, HK10, HB10, hst2⟩
          case measure => simp [intOf] <;> omega
end Go.Proofs.Ytabjbpkojbdgaaa
