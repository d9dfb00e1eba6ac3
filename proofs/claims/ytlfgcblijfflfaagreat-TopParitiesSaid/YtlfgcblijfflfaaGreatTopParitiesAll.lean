/- TopParitiesAll: the texts Sure, TopParitiesWalk, TopParitiesLaw in one. -/
import Derived.Test.YtlfgcblijfflfaaGreatCdclAll
import Derived.Test.YtlfgcblijfflfaaGreatKitCl
import Derived.Test.YtlfgcblijfflfaaGreatTopA
import Derived.Test.YtlfgcblijfflfaaGreatParAll
import Derived.Test.YtlfgcblijfflfaaGreatRows
import Derived.Test.YtlfgcblijfflfaaGreatOpen
/- Contract of clausesSure: one and its contrary: true. -/
namespace Go.Proofs.YtlfgcblijfflfaaGreat
open Go.RowKit
set_option linter.unusedSimpArgs false

theorem sure_beside : besideR 1 [[1], [-1]] [] = (0, 0) := by decide
theorem sure_none (m : List Bool) (h : allB [[1], [-1]] m = true) : False := by
  unfold allB satB litB at h
  simp at h
theorem answ_sure {w' : World} {st : Int} {hb : Option Addr} {hn hc : Nat} (h : Answ 1 [[1], [-1]] [] 2000 w' st hb hn hc) : st = 2 := by
  rcases h.one with e | e | e
  · obtain ⟨bs, _, _, h1, _⟩ := h.yes e
    exact (sure_none bs h1).elim
  · exact e
  · have := h.out e
    simp at this

set_option maxHeartbeats 2000000 in
theorem sure_any (w : World) : Calls Tryz.prog 8 #[] w (RetV (.bool true) w) := by
  obtain ⟨w1, hw1⟩ : ∃ z : World, z = ((w.alloc (.cells #[.int .i64 1] 3)).alloc (.cells #[.int .i64 (-1)] 3)).alloc (.cells #[.slice (some ⟨w.heap.size, 0, none⟩) 1 1, .slice (some ⟨w.heap.size + 1, 0, none⟩) 1 1] 22) := ⟨_, rfl⟩
  have B1 : Hid (Below w.heap.size w w1) := by rw [hw1]; exact below_alloc (below_alloc (below_new _ _) _) _
  have I1 : Ints ((w.alloc (.cells #[.int .i64 1] 3)).alloc (.cells #[.int .i64 (-1)] 3)) (some ⟨w.heap.size, 0, none⟩) 1 1 [1] := (ints_made w 3 [1] rfl (by simp [I64]) (by simp [maxLen])).keep (below_new _ _)
  have I2 : Ints ((w.alloc (.cells #[.int .i64 1] 3)).alloc (.cells #[.int .i64 (-1)] 3)) (some ⟨w.heap.size + 1, 0, none⟩) 1 1 [-1] := ints_made (w.alloc (.cells #[.int .i64 1] 3)) 3 [-1] (by simp) (by simp [I64]) (by simp [maxLen])
  have G1 : Hid (Grid w1 (some ⟨w.heap.size + 1 + 1, 0, none⟩) 2 2 [[1], [-1]]) := by rw [hw1]; exact grid2 22 (by simp) I1 I2
  have hlt : w.heap.size + 1 + 1 < w1.heap.size := by rw [hw1]; simp
  clear I1 I2
  go_enter Tryz.func8, Tryz.ntmps8
  go_wp2_with fail
  rw [← hw1]
  clear hw1
  refine (cdcl_any _ none 2 2 0 0 [[1], [-1]] [] 1 w1 G1.out (fun h => by cases h) (fun a ha => by cases ha; exact hlt) ⟨Sl_nil w1, by simp⟩ sure_beside 0 0 0 0 ⟨by omega, by omega⟩ ⟨by omega, by omega⟩ ⟨by omega, by omega⟩ ⟨by omega, by omega⟩ 2000 (Nat.le_refl _) core_none).mono ?_
  rintro e w2 ⟨st, hb, hn, hc, S, ns, cs, K, nk, ck, used, rfl, hb2, ha⟩
  obtain rfl := answ_sure ha
  have HB := Lib.hid (below_next B1.out hb2)
  clear ha hb2 B1 hlt
  go_wp2_with fail
  go_ret
  exact ⟨rfl, below_alloc (below_alloc HB.out _) _⟩
end Go.Proofs.YtlfgcblijfflfaaGreat

/- The walk of TopParities: it returns true. (Printed by wip/tools/topparities.py.) -/
namespace Go.Proofs.YtlfgcblijfflfaaGreat
open Go.RowKit
set_option linter.unusedSimpArgs false
set_option linter.unusedVariables false

theorem asc_snoc {l : List Int} {x : Int} (h : Asc l) (hx : ∀ y ∈ l, y < x) : Asc (l ++ [x]) := List.pairwise_append.2 ⟨h, by simp, fun y hy z hz => by rw [List.mem_singleton.1 hz]; exact hx y hy⟩
theorem own_base_ {e : TypeId} {w : World} {base n c k : Nat} {A : Option Addr} {xs : List Value} (h : Own e w base A n c xs) (hk : blockOf A = some k) : base ≤ k := by
  rcases h.form with ⟨rfl, _⟩ | ⟨g', _, rfl, hg', _⟩
  · cases hk
  · cases hk; exact hg'
theorem heap_size_setCell_ (w : World) (p : Addr) (v : Value) : (w.setCell p v).heap.size = w.heap.size := by simp
theorem Sl.clip_ {w : World} {A : Option Addr} {n c : Nat} {xs : List Value} (h : Sl w A n c xs) : Sl w A n n xs := by
  exact ⟨h.len, Nat.le_refl _, Nat.le_trans h.le h.cap, h.at_⟩
theorem threeT_ {P : Program} {ops : Array Oper} {Q : Exit → Act → World → Prop} {md : Region.Mode} {S : World → Prop} {ts : List Nat} {i j k : Nat} {o u x : Oper} {fuel : Nat} {listed : Array Bool} {a : Act} {w : World} (hr : Region.ready md ops listed = [i, j, k]) (hi : ops[i]? = some o) (hw : Region.wanted o (yielded ops a.tmps) = true) (hj : ops[j]? = some u) (hu : Region.wanted u (yielded ops a.tmps) = true) (hk : ops[k]? = some x) (hx : Region.wanted x (yielded ops a.tmps) = true)
    (h : ∀ K : Act → World → Prop, (∀ a' w', (noT ts (listed.setIfInBounds i true) = true → S w') → wpAnyT P md ops Q S ts fuel (listed.setIfInBounds i true) a' w' → K a' w') → o.wp P a w K Q)
    (h' : ∀ K : Act → World → Prop, (∀ a' w', (noT ts (listed.setIfInBounds j true) = true → S w') → wpAnyT P md ops Q S ts fuel (listed.setIfInBounds j true) a' w' → K a' w') → u.wp P a w K Q)
    (h'' : ∀ K : Act → World → Prop, (∀ a' w', (noT ts (listed.setIfInBounds k true) = true → S w') → wpAnyT P md ops Q S ts fuel (listed.setIfInBounds k true) a' w' → K a' w') → x.wp P a w K Q) : wpAnyT P md ops Q S ts (fuel + 1) listed a w :=
  allT hr (by simp) fun l hl => by
    simp at hl
    rcases hl with rfl | rfl | rfl
    · unfold wpOp
      simp only [hi, hw, if_true]
      exact .inl (h _ fun _ _ h1 h2 => ⟨h1, h2⟩)
    · unfold wpOp
      simp only [hj, hu, if_true]
      exact .inl (h' _ fun _ _ h1 h2 => ⟨h1, h2⟩)
    · unfold wpOp
      simp only [hk, hx, if_true]
      exact .inl (h'' _ fun _ _ h1 h2 => ⟨h1, h2⟩)
theorem put5 {w wr : World} {B b2 b3 : Nat} (K3 : Blk wr b2 46 #[.int .i64 0, .slice none 0 0, .slice none 0 0, .slice none 0 0, .int .i64 0]) (K4 : Blk wr b3 28 #[.int .i64 0, .int .i64 0]) (hne : b2 ≠ b3) (hb : Below B w wr) (h2 : B ≤ b2) (v0 v1 v2 v3 v4 : Value) :
    Blk (((((wr.setCell ⟨b2, 0, none⟩ v0).setCell ⟨b2, 1, none⟩ v1).setCell ⟨b2, 2, none⟩ v2).setCell ⟨b2, 3, none⟩ v3).setCell ⟨b2, 4, none⟩ v4) b2 46 #[v0, v1, v2, v3, v4] ∧
    Blk (((((wr.setCell ⟨b2, 0, none⟩ v0).setCell ⟨b2, 1, none⟩ v1).setCell ⟨b2, 2, none⟩ v2).setCell ⟨b2, 3, none⟩ v3).setCell ⟨b2, 4, none⟩ v4) b3 28 #[.int .i64 0, .int .i64 0] ∧
    Below B w (((((wr.setCell ⟨b2, 0, none⟩ v0).setCell ⟨b2, 1, none⟩ v1).setCell ⟨b2, 2, none⟩ v2).setCell ⟨b2, 3, none⟩ v3).setCell ⟨b2, 4, none⟩ v4) := by
  have hne' : b3 ≠ b2 := fun e => hne e.symm
  refine ⟨?_, ?_, ?_⟩
  · have := ((((K3.set_ 0 v0).set_ 1 v1).set_ 2 v2).set_ 3 v3).set_ 4 v4
    simpa using this
  · have := ((((K4.far (p := ⟨b2, 0, none⟩) hne' v0).far (p := ⟨b2, 1, none⟩) hne' v1).far (p := ⟨b2, 2, none⟩) hne' v2).far (p := ⟨b2, 3, none⟩) hne' v3).far (p := ⟨b2, 4, none⟩) hne' v4
    simpa using this
  · exact ((((hb.setCell (p := ⟨b2, 0, none⟩) h2 _).setCell (p := ⟨b2, 1, none⟩) h2 _).setCell (p := ⟨b2, 2, none⟩) h2 _).setCell (p := ⟨b2, 3, none⟩) h2 _).setCell (p := ⟨b2, 4, none⟩) h2 _
theorem put2_ {w wr : World} {B b2 b3 : Nat} {cs : Array Value} (K3 : Blk wr b2 46 cs) (K4 : Blk wr b3 28 #[.int .i64 0, .int .i64 0]) (hne : b2 ≠ b3) (hb : Below B w wr) (h3 : B ≤ b3) :
    Blk ((wr.setCell ⟨b3, 0, none⟩ (.int .i64 0)).setCell ⟨b3, 1, none⟩ (.int .i64 0)) b2 46 cs ∧ Blk ((wr.setCell ⟨b3, 0, none⟩ (.int .i64 0)).setCell ⟨b3, 1, none⟩ (.int .i64 0)) b3 28 #[.int .i64 0, .int .i64 0] ∧
    Below B w ((wr.setCell ⟨b3, 0, none⟩ (.int .i64 0)).setCell ⟨b3, 1, none⟩ (.int .i64 0)) := by
  refine ⟨(K3.far (p := ⟨b3, 0, none⟩) hne _).far (p := ⟨b3, 1, none⟩) hne _, ?_, (hb.setCell (p := ⟨b3, 0, none⟩) h3 _).setCell (p := ⟨b3, 1, none⟩) h3 _⟩
  have := (K4.set_ 0 (.int .i64 0)).set_ 1 (.int .i64 0)
  simpa using this
theorem ownP_nil_ {e t : TypeId} {w : World} {base low n c : Nat} {A : Option Addr} {xss : List (List Int)} (h : OwnP e t w base low A n c xss) : A = none → c = 0 := fun hA => by
  obtain ⟨vs, h1, _⟩ := h
  rcases h1.form with ⟨_, _, hc, _⟩ | ⟨g, _, e1, _⟩
  · exact hc
  · rw [hA] at e1; cases e1
theorem ownP_lt_ {e t : TypeId} {w : World} {base low n c : Nat} {A : Option Addr} {xss : List (List Int)} (h : OwnP e t w base low A n c xss) : ∀ a, A = some a → a.block < w.heap.size := fun a hA => by
  obtain ⟨vs, h1, _⟩ := h
  rcases h1.form with ⟨e1, _⟩ | ⟨g, cur, e1, _, hh, _⟩
  · rw [hA] at e1; cases e1
  · rw [hA] at e1
    cases e1
    rcases Nat.lt_or_ge g w.heap.size with hlt | hge
    · exact hlt
    · rw [Array.getElem?_eq_none hge] at hh; cases hh
theorem ownPr_cap_ {w : World} {base low n d : Nat} {B : Option Addr} {ps : List Pr} (h : OwnPr w base low B n d ps) : d ≤ 9223372036854775807 := by
  obtain ⟨vs, h1, _⟩ := h
  rcases h1.form with ⟨_, _, hd, _⟩ | ⟨g, cur, _, _, _, _, hd, _⟩
  · omega
  · simpa [maxLen] using hd

set_option maxHeartbeats 60000000 in
set_option maxRecDepth 100000 in
theorem topParities_walk {A : Option Addr} {m d : Nat} {raw : List Int} {o : Int} (w : World) (h : Ints w A m d raw) (ho : I64 o) : Calls Tryz.prog 4 #[.slice A m d, .int .i64 o] w fun e w' => e = .returned (.bool true) ∧ Below w.heap.size w w' := by
  have H := Lib.hid h
  have HOP := Lib.hid ho
  obtain ⟨ir, hir, hr0, hr1, hr2⟩ := info_parts row_info
  obtain ⟨i0, hi0, hz0, hz1, hz2⟩ := info_parts int_info
  obtain ⟨l0, hl0, hx0, hx1, hx2⟩ := info_parts par_info
  have hbd := h.bd
  obtain ⟨w1, hw1⟩ : ∃ z : World, z = w.alloc (.cells #[.int .i64 5, .slice none 0 0] 25) := ⟨_, rfl⟩
  have hb1 : Below w.heap.size w w1 := by rw [hw1]; exact below_new _ _
  have K1 : Hid (Blk w1 w.heap.size 25 #[.int .i64 5, .slice none 0 0]) := by rw [hw1]; exact Blk.new _ _ _
  have B1 := Lib.hid hb1
  have S1 : Hid (w.heap.size + 1 ≤ w1.heap.size) := by show _ ≤ _; rw [hw1]; simp
  clear h ho hb1
  go_enter Tryz.func4, Tryz.ntmps4
  go_wp2_with fail
  rw [← hw1]
  clear hw1
  go_loopw [5, 7] (fun s5 s7 wr => ∃ (i dL : Nat) (L : Option Addr) (ps : List Pr) (nC cC : Nat) (C : Option Addr) (xss : List (List Int)), i ≤ 4 ∧ i ≤ m ∧ s5 = .slice L i dL ∧ s7 = .int .i64 i ∧ Hid (Below w.heap.size w wr) ∧ Hid (w.heap.size + 1 ≤ wr.heap.size) ∧ Hid (OwnPr wr (w.heap.size + 1) w.heap.size L i dL ps) ∧ Hid (∀ p ∈ ps, Fine 5 p) ∧ Hid (Blk wr w.heap.size 25 #[.int .i64 5, .slice C nC cC]) ∧ Hid (OwnP 22 3 wr (w.heap.size + 1) w.heap.size C nC cC xss) ∧ Hid (xss = ps.flatMap clausesF)) (fun _ q _ => 4 - (intOf q).toNat)
  case atStart => exact ⟨0, 0, none, [], 0, 0, none, [], Nat.zero_le _, Nat.zero_le _, rfl, rfl, B1, S1, OwnPr.nil _ _ _, by simp [Hid], K1, OwnP.nil _ _ _ _ _, rfl⟩
  case round =>
    clear K1 B1 S1
    obtain ⟨i, dL, L, ps, nC, cC, C, xss, hi4, him, rfl, rfl, HB, HZ, HPS, HF, HK, HC, HX⟩ := hrel
    have k0 := HK.out.cell 0
    have k1 := HK.out.cell 1
    have k4 := HK.out.lt
    simp at k0 k1
    have hpl : ps.length = i := HPS.out.len
    have hnC : nC ≤ 32 * i := by
      have h1 := HC.out.len
      rw [HX.out] at h1
      have h2 := flat_len HF.out
      omega
    by_cases hgo : i < m ∧ i < 4
    · obtain ⟨g1, g2⟩ := hgo
      have u1 : (i : Int) < (m : Int) := by omega
      have u2 : (i : Int) < 4 := by omega
      have u3 : (0 : Int) ≤ (i : Int) := by omega
      have HA := Lib.hid (H.out.keep HB.out)
      obtain ⟨b, off, x, hAe, hbb, hcell, x1, x2, hxk⟩ := HA.out.round g1
      have hx64 : Hid (I64 x) := ⟨x1, x2⟩
      have LE : Hid (A = some ⟨b, off, none⟩) := hAe
      obtain ⟨od, hod⟩ : ∃ r, Hid (pickF x 2 = r) := ⟨_, rfl⟩
      have hodr := pickF_range x (n := 2) (by omega)
      rw [hod.out] at hodr
      have HX2 : Hid (I64 (x.tdiv 2)) := tdiv_i64 hx64.out (by omega)
      have hzr := pickF_range (x.tdiv 2) (n := 32) (by omega)
      obtain ⟨zN, hzN⟩ : ∃ zN : Nat, pickF (x.tdiv 2) 32 = (zN : Int) := ⟨(pickF (x.tdiv 2) 32).toNat, by omega⟩
      rw [hzN] at hzr
      have HZN : Hid (pickF (x.tdiv 2) 32 = (zN : Int)) := hzN
      have hz32 : zN < 32 := by omega
      have hab : b < w.heap.size := by
        obtain ⟨b9, o9, e9, hlt9, _⟩ := H.out.sl.at_ (by omega)
        rw [LE.out] at e9
        cases e9
        exact hlt9
      subst hAe
      clear hxk hzN hzr
      go_wp2_with fail
      refine (picked_any x 2 wr hx64.out (by omega) (by omega) od hod).mono ?_
      rintro e wa ⟨rfl, ma, hma⟩
      have hba : Below wr.heap.size wr wa := by rw [hma]; exact below_drewN _ _
      have HPSa := Lib.hid (HPS.out.keep hba)
      have HKa := Lib.hid (HK.out.keep hba)
      have HCa := Lib.hid (HC.out.keep hba)
      have HBa := Lib.hid (below_next HB.out hba)
      have HZa : Hid (w.heap.size + 1 ≤ wa.heap.size) := Nat.le_trans HZ.out hba.size
      replace hcell := keepBox hba hcell
      replace hbb := (cell_lt hcell).1
      have dod : ((od == 1) = true ∨ (od == 1) = false) := by cases (od == 1) <;> simp
      clear hma hba HPS HK HC HB HZ HA k0 k1 k4 hod
      go_wp2_with fail
      obtain ⟨wi, hwi⟩ : ∃ z : World, z = wa.alloc (.cells #[.slice none 0 0, .bool (od == 1)] 39) := ⟨_, rfl⟩
      have hbi : Below wa.heap.size wa wi := by rw [hwi]; exact below_new _ _
      have HKi : Hid (Blk wi wa.heap.size 39 #[.slice none 0 0, .bool (od == 1)]) := by rw [hwi]; exact Blk.new _ _ _
      have HBi := Lib.hid hbi
      try rw [← hwi]
      clear hwi hbi
      go_loopw [9] (fun s9 wr => ∃ (j k cO : Nat) (O : Option Addr) (l : List Int), j ≤ 5 ∧ k ≤ j ∧ s9 = .int .i64 ((j : Int) + 1) ∧ Hid (Below wa.heap.size wa wr) ∧ Hid (Blk wr wa.heap.size 39 #[.slice O k cO, .bool (od == 1)]) ∧ Hid (Own 3 wr (wa.heap.size + 1) O k cO (l.map (Value.int .i64))) ∧ Hid (Asc l) ∧ Hid (∀ y ∈ l, 1 ≤ y ∧ y ≤ (j : Int))) (fun q _ => 6 - (intOf q).toNat)
      case atStart => exact ⟨0, 0, 0, none, [], Nat.zero_le _, Nat.le_refl _, rfl, HBi, HKi, Own.nil _ _ _, List.Pairwise.nil, by simp [Hid]⟩
      case round =>
        clear HKi HBi
        obtain ⟨j, k, cO, O, l, hj, hkj, rfl, HB2, HKP, HO, HASC, HIN⟩ := hrel
        have kp0 := HKP.out.cell 0
        have kp1 := HKP.out.cell 1
        have kp4 := HKP.out.lt
        simp at kp0 kp1
        by_cases hj5 : j < 5
        · have v1 : (j : Int) + 1 < 6 := by omega
          have hcell2 := keepBox HB2.out hcell
          have zc2 := (cell_lt hcell2).1
          have hq := bit_andW (k := zN) (i := j) (by omega)
          have ej : (j : Int) + 1 - 1 = (j : Int) := by omega
          have ejn : (j : Int).toNat = j := by omega
          have vj : (0 : Int) ≤ (j : Int) := by omega
          obtain ⟨bv, hbv⟩ : ∃ b : Bool, Hid ((zN / 2 ^ j % 2 == 1) = b) := ⟨_, rfl⟩
          rw [hbv.out] at hq
          go_wp2_with fail
          refine (picked_any (x.tdiv 2) 32 wr HX2.out (by omega) (by omega) (zN : Int) HZN).mono ?_
          rintro e wb ⟨rfl, mb, hmb⟩
          have hbb2 : Below wr.heap.size wr wb := by rw [hmb]; exact below_drewN _ _
          have HB3 := Lib.hid (below_next HB2.out hbb2)
          have HK3 := Lib.hid (HKP.out.keep hbb2)
          have HO3 := Lib.hid (HO.out.keep hbb2)
          clear hmb hbb2 HB2 HKP HO kp0 kp1 kp4 hcell2 zc2
          have kq0 := HK3.out.cell 0
          have kq4 := HK3.out.lt
          have kqf := HK3.out.frozen 0
          simp at kq0
          cases bv
          · go_wp2_with fail
            go_roundw
            case rel => exact ⟨j + 1, k, cO, O, l, by omega, by omega, by go_num, HB3, HK3, HO3, HASC, fun y hy => ⟨(HIN.out y hy).1, by have := (HIN.out y hy).2; omega⟩⟩
            case measure => simp [intOf] <;> omega
          · have HSL := Lib.hid (sl_one wb 3 (.int .i64 ((j : Int) + 1)) rfl)
            have hb4 := below_new wb (.cells #[.int .i64 ((j : Int) + 1)] 3)
            have HOn := Lib.hid (HO3.out.keep hb4)
            have HKn := Lib.hid (HK3.out.keep hb4)
            have HBn := Lib.hid (below_next HB3.out hb4)
            have hsz := HBn.out.size
            have hlb : wa.heap.size < wb.heap.size := kq4
            clear hb4 HO3
            go_wp2_with (first
              | (at_builtin
                 refine wpList_append_sl _ rfl (.tmp 52) (.tmp 54) _ rfl (wa.heap.size + 1) 3 i0 _ 8 Tryz.underlying22 hi0 hz0 hz1 hz2 rfl O k cO _ rfl HOn.out (some ⟨wb.heap.size, 0, none⟩) 1 1 _ rfl HSL.out (by simp [Value.oneCell']) (by simp only [maxLen]; omega) (by omega) (by simp; omega) ?_
                 intro L1 cL1 w9 hL1 hg1 hat1
                 have HL1 : Hid (Own 3 w9 (wa.heap.size + 1) L1 (k + 1) cL1 ((l ++ [(j : Int) + 1]).map (Value.int .i64))) := by rw [List.map_append]; exact hL1
                 have HB9 : Hid (Below wa.heap.size wa w9) := HBn.out.grown hg1 HBn.out.size (fun z hz => by have := own_base_ HOn.out hz; omega)
                 have HK9 := Lib.hid (HKn.out.grown hg1 (fun e => by have := own_base_ HOn.out e.symm; omega))
                 have kq0 := HK9.out.cell 0
                 have kq4 := HK9.out.lt
                 have kqf := HK9.out.frozen 0
                 simp at kq0
                 clear hL1 hg1 hat1))
            obtain ⟨wc, hwc⟩ : ∃ z : World, z = w9.setCell ⟨wa.heap.size, 0, none⟩ (.slice L1 (k + 1) cL1) := ⟨_, rfl⟩
            have HK10 : Hid (Blk wc wa.heap.size 39 #[.slice L1 (k + 1) cL1, .bool (od == 1)]) := by rw [hwc]; have := HK9.out.set_ 0 (.slice L1 (k + 1) cL1); simpa [Hid] using this
            have HL10 : Hid (Own 3 wc (wa.heap.size + 1) L1 (k + 1) cL1 ((l ++ [(j : Int) + 1]).map (Value.int .i64))) := by rw [hwc]; exact HL1.out.kept (grown_setCell w9 ⟨wa.heap.size, 0, none⟩ _) (HL1.out.geb (Nat.lt_succ_self _))
            have HB10 : Hid (Below wa.heap.size wa wc) := by rw [hwc]; exact HB9.out.setCell (p := ⟨wa.heap.size, 0, none⟩) (Nat.le_refl _) _
            have HASC2 : Hid (Asc (l ++ [(j : Int) + 1])) := asc_snoc HASC.out (fun y hy => by have := (HIN.out y hy).2; omega)
            have HIN2 : Hid (∀ y ∈ l ++ [(j : Int) + 1], 1 ≤ y ∧ y ≤ ((j + 1 : Nat) : Int)) := fun y hy => by
              rcases List.mem_append.1 hy with hy | hy
              · exact ⟨(HIN.out y hy).1, by have := (HIN.out y hy).2; omega⟩
              · rw [List.mem_singleton.1 hy]; omega
            rw [← hwc]
            clear hwc HK9 HL1 HB9 kq0 kq4 kqf HOn HKn HBn
            go_wp2_with fail
            go_roundw
            case rel => exact ⟨j + 1, k + 1, cL1, L1, l ++ [(j : Int) + 1], by omega, by omega, by go_num, HB10, HK10, HL10, HASC2, HIN2⟩
            case measure => simp [intOf] <;> omega
        · have hj55 : j = 5 := by omega
          have v1 : ¬ (j : Int) + 1 < 6 := by omega
          obtain ⟨p, hpe⟩ : ∃ p : Pr, p = ⟨l, (od == 1)⟩ := ⟨_, rfl⟩
          have hpo : p.odd = (od == 1) := by rw [hpe]
          have hpl : p.of = l := by rw [hpe]
          have HFP : Hid (Fine 5 p) := by rw [hpe]; exact ⟨HASC.out, fun v hv => ⟨(HIN.out v hv).1, by have := (HIN.out v hv).2; omega⟩⟩
          have HPI : Hid (Ints wr O k cO p.of) := by rw [hpl]; exact HO.out.ints (fun y hy => by have := HIN.out y hy; unfold I64; omega)
          have HPA : Hid (Away 3 wr w.heap.size O k) := Away.own HO.out
          have hk5 : k ≤ 5 := by omega
          have HPSr := Lib.hid (HPSa.out.keep HB2.out)
          have HKr := Lib.hid (HKa.out.keep HB2.out)
          have HCr := Lib.hid (HCa.out.keep HB2.out)
          have HBr := Lib.hid (below_next HBa.out HB2.out)
          have hza := HZa.out
          have hzr := HB2.out.size
          rw [← hpo] at kp1 HKP
          clear HO HB2 HPSa HKa HCa HBa HASC HIN hpe hpl hpo hcell
          go_wp2_with fail
          refine (parcnf_any O k cO p wr HPI.out HFP.out).mono ?_
          rintro e wc ⟨A5, n5, c5, rfl, hO5, hb5⟩
          have HPI5 := Lib.hid (HPI.out.keep hb5)
          have HPA5 := Lib.hid (HPA.out.keep hb5)
          have HPS5 := Lib.hid (HPSr.out.keep hb5)
          have HK5 := Lib.hid (HKr.out.keep hb5)
          have HC5 := Lib.hid (HCr.out.keep hb5)
          have HB5 := Lib.hid (below_next HBr.out hb5)
          have HKP5 := Lib.hid (HKP.out.keep hb5)
          have hz5 := hb5.size
          have HO5 : Hid (OwnP 22 3 wc wr.heap.size 0 A5 n5 c5 (clausesF p)) := hO5
          have hn5 : n5 ≤ 32 := by
            have h1 := hO5.len
            have h2 := clausesF_len p
            have h3 : 2 ^ p.of.length ≤ 2 ^ 5 := Nat.pow_le_pow_right (by omega) (fine_len HFP.out)
            have h4 : (clausesF p).length = n5 := h1
            omega
          clear hO5 hb5 HPI HPA HPSr HKr HCr HBr HKP kp0 kp1 kp4
          obtain ⟨wd0, hwd0⟩ : ∃ z : World, Hid (z = (wc.alloc (.cells #[.int .i64 5, .slice A5 n5 n5] 25)).alloc (.cells #[.int .i64 0, .int .i64 0] 28)) := ⟨_, rfl⟩
          have hb60 : Below wc.heap.size wc wd0 := by rw [hwd0.out]; exact below_alloc (below_new _ _) _
          have HD60 : Hid (Blk wd0 wc.heap.size 25 #[.int .i64 5, .slice A5 n5 n5]) := by rw [hwd0.out]; exact (Blk.new _ _ _).alloc _
          have HE60 : Hid (Blk wd0 (wc.heap.size + 1) 28 #[.int .i64 0, .int .i64 0]) := by rw [hwd0.out]; have := Blk.new (wc.alloc (.cells #[.int .i64 5, .slice A5 n5 n5] 25)) 28 #[.int .i64 0, .int .i64 0]; simpa [Hid] using this
          have hzd0 : wc.heap.size + 2 = wd0.heap.size := by rw [hwd0.out]; simp
          have e00 := HE60.out.cell 0
          have e10 := HE60.out.cell 1
          have ef0 := HE60.out.frozen 0
          have ef1 := HE60.out.frozen 1
          simp at e00 e10
          obtain ⟨wd, hwd⟩ : ∃ z : World, Hid (z = (wd0.setCell ⟨wc.heap.size + 1, 0, none⟩ (.int .i64 0)).setCell ⟨wc.heap.size + 1, 1, none⟩ (.int .i64 0)) := ⟨_, rfl⟩
          have hb6 : Below wc.heap.size wc wd := by rw [hwd.out]; exact (hb60.setCell (p := ⟨wc.heap.size + 1, 0, none⟩) (Nat.le_succ _) _).setCell (p := ⟨wc.heap.size + 1, 1, none⟩) (Nat.le_succ _) _
          have hDE : wc.heap.size ≠ wc.heap.size + 1 := by omega
          have HD6 : Hid (Blk wd wc.heap.size 25 #[.int .i64 5, .slice A5 n5 n5]) := by rw [hwd.out]; exact (HD60.out.far (p := ⟨wc.heap.size + 1, 0, none⟩) hDE _).far (p := ⟨wc.heap.size + 1, 1, none⟩) hDE _
          have HE6 : Hid (Blk wd (wc.heap.size + 1) 28 #[.int .i64 0, .int .i64 0]) := by rw [hwd.out]; have := (HE60.out.set_ 0 (.int .i64 0)).set_ 1 (.int .i64 0); simpa [Hid] using this
          have hzd : wc.heap.size + 2 = wd.heap.size := by rw [hwd.out, heap_size_setCell_, heap_size_setCell_]; exact hzd0
          have HPI6 := Lib.hid (HPI5.out.keep hb6)
          have HPA6 := Lib.hid (HPA5.out.keep hb6)
          have HPS6 := Lib.hid (HPS5.out.keep hb6)
          have HK6 := Lib.hid (HK5.out.keep hb6)
          have HC6 := Lib.hid (HC5.out.keep hb6)
          have HB6 := Lib.hid (below_next HB5.out hb6)
          have HKP6 := Lib.hid (HKP5.out.keep hb6)
          have HO6 := Lib.hid (HO5.out.keep hb6)
          clear hb6 hb60 HD60 HE60 HPI5 HPA5 HPS5 HK5 HC5 HB5 HKP5 HO5
          have kp0 := HKP6.out.cell 0
          have kp1 := HKP6.out.cell 1
          have kp4 := HKP6.out.lt
          have d0 := HD6.out.cell 0
          have d1 := HD6.out.cell 1
          have d4 := HD6.out.lt
          have e0 := HE6.out.cell 0
          have e1 := HE6.out.cell 1
          have e4 := HE6.out.lt
          simp at kp0 kp1 d0 d1 e0 e1
          obtain ⟨wp, hwp⟩ : ∃ z : World, Hid (z = wd.alloc (.cells #[.slice O k cO, .bool p.odd] 39)) := ⟨_, rfl⟩
          have hb7 : Below wd.heap.size wd wp := by rw [hwp.out]; exact below_new _ _
          have HN0 : Hid (∀ (q : Nat) (u : Value), (cells2 (O, k, cO, p.odd))[q]? = some u → wp.cell? ⟨wd.heap.size, q, none⟩ = some u) := fun q u hq => by
            rw [hwp.out, (Blk.new wd 39 #[.slice O k cO, .bool p.odd]).cell q]
            simpa [cells2] using hq
          have HN1 : Hid (∀ u ∈ cells2 (O, k, cO, p.odd), u.oneCell' = true) := fun u hu => by
            unfold cells2 at hu
            rcases List.mem_cons.1 hu with e | e
            · rw [e]; rfl
            · rw [List.mem_singleton.1 e]; rfl
          obtain ⟨vs, hv1, hv2⟩ := (HPS6.out.keep hb7)
          have HV1 := Lib.hid hv1
          have HV2 := Lib.hid hv2
          have HPI7 := Lib.hid (HPI6.out.keep hb7)
          have HPA7 := Lib.hid (HPA6.out.keep hb7)
          have HK7 := Lib.hid (HK6.out.keep hb7)
          have HC7 := Lib.hid (HC6.out.keep hb7)
          have HB7 := Lib.hid (below_next HB6.out hb7)
          have HO7 := Lib.hid (HO6.out.keep hb7)
          have HD7 := Lib.hid (HD6.out.keep hb7)
          have hz7 : w.heap.size + 1 ≤ wp.heap.size := by have := hb7.size; omega
          clear hv1 hv2 hb7 HPI6 HPA6 HPS6 HK6 HC6 HB6 HO6 HD6 HKP6
          go_wp2_with (first
            | (rw [← hwd0.out])
            | (rw [← hwd.out])
            | (at_builtin
               rw [← hwp.out]
               refine wpList_append_k _ rfl (.tmp 65) (.tmp 67) _ rfl 2 32 (w.heap.size + 1) 39 l0 _ Tryz.underlying36 hl0 hx0 hx1 hx2 rfl (by omega) L i dL _ rfl HV1.out wd.heap.size (cells2 (O, k, cO, p.odd)) rfl rfl HN0.out HN1.out (by simp only [maxLen]; omega) (by omega) (by omega) ?_
               intro L2 dL2 we hL2 hg8
               have HPS8 : Hid (OwnPr we (w.heap.size + 1) w.heap.size L2 (i + 1) dL2 (ps ++ [p])) := OwnPr.push (p := p) HV1.out HV2.out (by omega) HPI7.out HPA7.out hL2 hg8
               have hbase : ∀ q, blockOf L = some q → w.heap.size + 1 ≤ q ∧ Typed 39 wp q := fun q hq => HV1.out.base hq
               have HB8 : Hid (Below w.heap.size w we) := HB7.out.grown hg8 HB7.out.size (fun q hq => by have := (hbase q hq).1; omega)
               have HK8 := Lib.hid (HK7.out.grown hg8 (fun e => by have := (hbase _ e.symm).1; omega))
               have HD8 := Lib.hid (blk_kept_ HD7.out hg8 (fun q hq => (hbase q hq).2) (by decide))
               have HC8 : Hid (OwnP 22 3 we (w.heap.size + 1) w.heap.size C nC cC xss) := ownP_kT (e := 39) HC7.out hg8 (fun q hq => ⟨by have := (hbase q hq).1; omega, (hbase q hq).2⟩) (by decide) (by decide)
               have HO8 : Hid (OwnP 22 3 we wr.heap.size 0 A5 n5 c5 (clausesF p)) := ownP_kT (e := 39) HO7.out hg8 (fun q hq => ⟨Nat.zero_le _, (hbase q hq).2⟩) (by decide) (by decide)
               have hz8 : w.heap.size + 1 ≤ we.heap.size := Nat.le_trans hz7 hg8.size
               have y0 := HK8.out.cell 0
               have y1 := HK8.out.cell 1
               have y4 := HK8.out.lt
               have yf := HK8.out.frozen 1
               have x0 := HD8.out.cell 1
               have x4 := HD8.out.lt
               simp at y0 y1 x0
               obtain ⟨us, hus, hur⟩ := HO8.out
               obtain ⟨vc, hvc, hvr⟩ := HC8.out
               have HUS := Lib.hid hus
               have HUR := Lib.hid hur
               have HVC := Lib.hid hvc
               have HVR := Lib.hid hvr
               clear hL2 hg8 hus hur hvc hvr hbase)
            | (at_builtin
               refine wpList_append_sl _ rfl (.tmp 70) (.tmp 72) _ rfl (w.heap.size + 1) 22 ir _ 24 Tryz.underlying23 hir hr0 hr1 hr2 rfl C nC cC vc rfl HVC.out A5 n5 n5 us rfl HUS.out.sl.clip_ (fun u hu => HUR.out.one u hu) (by simp only [maxLen]; omega) (by omega) (by omega) ?_
               intro C2 cC2 wf hC2 hg9 hat9
               have hbs : ∀ q, blockOf C = some q → w.heap.size ≤ q ∧ Typed 22 we q := own_rows HVC.out (by omega)
               have HRA : Hid (RowsP 3 we w.heap.size (vc ++ us) (xss ++ clausesF p)) := HVR.out.append (HUR.out.mono (Nat.zero_le _))
               have HC9 : Hid (OwnP 22 3 wf (w.heap.size + 1) w.heap.size C2 (nC + n5) cC2 (xss ++ clausesF p)) := ⟨_, hC2, HRA.out.kept hg9 hbs (by decide)⟩
               have HPS9 : Hid (OwnPr wf (w.heap.size + 1) w.heap.size L2 (i + 1) dL2 (ps ++ [p])) := HPS8.out.kept hg9 hbs (by decide) (by decide)
               have HK9 := Lib.hid (blk_kept_ HK8.out hg9 (fun q hq => (hbs q hq).2) (by decide))
               have HB9 : Hid (Below w.heap.size w wf) := HB8.out.grown hg9 HB8.out.size (fun q hq => (hbs q hq).1)
               have hz9 : w.heap.size + 1 ≤ wf.heap.size := Nat.le_trans hz8 hg9.size
               have q0 := HK9.out.cell 0
               have q1 := HK9.out.cell 1
               have q4 := HK9.out.lt
               have qf := HK9.out.frozen 1
               simp at q0 q1
               clear hC2 hg9 hat9 hbs y0 y1 y4 yf x0 x4))
          obtain ⟨wg, hwg⟩ : ∃ z : World, z = wf.setCell ⟨w.heap.size, 1, none⟩ (.slice C2 (nC + n5) cC2) := ⟨_, rfl⟩
          have gs := grown_setCell wf ⟨w.heap.size, 1, none⟩ (.slice C2 (nC + n5) cC2)
          have hT := Typed.of_blk HK9.out
          have hgT : ∀ q, some w.heap.size = some q → w.heap.size ≤ q ∧ Typed 25 wf q := fun q hq => by cases hq; exact ⟨Nat.le_refl _, hT⟩
          have HK10 : Hid (Blk wg w.heap.size 25 #[.int .i64 5, .slice C2 (nC + n5) cC2]) := by rw [hwg]; have := HK9.out.set_ 1 (.slice C2 (nC + n5) cC2); simpa [Hid] using this
          have HC10 : Hid (OwnP 22 3 wg (w.heap.size + 1) w.heap.size C2 (nC + n5) cC2 (xss ++ clausesF p)) := by rw [hwg]; exact ownP_kT (e := 25) HC9.out gs hgT (by decide) (by decide)
          have HPS10 : Hid (OwnPr wg (w.heap.size + 1) w.heap.size L2 (i + 1) dL2 (ps ++ [p])) := by rw [hwg]; exact HPS9.out.kept gs hgT (by decide) (by decide)
          have HB10 : Hid (Below w.heap.size w wg) := by rw [hwg]; exact HB9.out.setCell (p := ⟨w.heap.size, 1, none⟩) (Nat.le_refl _) _
          have HZ10 : Hid (w.heap.size + 1 ≤ wg.heap.size) := by show _ ≤ _; rw [hwg, heap_size_setCell_]; exact hz9
          have HF10 : Hid (∀ q ∈ ps ++ [p], Fine 5 q) := fun q hq => by
            rcases List.mem_append.1 hq with hq | hq
            · exact HF.out q hq
            · rw [List.mem_singleton.1 hq]; exact HFP.out
          have HX10 : Hid (xss ++ clausesF p = (ps ++ [p]).flatMap clausesF) := by show _ = _; rw [List.flatMap_append, HX.out]; simp
          rw [← hwg]
          clear hwg gs hT hgT HK9 HC9 HPS9 HB9 q0 q1 q4 qf
          go_wp2_with fail
          go_roundw
          case rel => exact ⟨i + 1, dL2, L2, ps ++ [p], nC + n5, cC2, C2, xss ++ clausesF p, by omega, by omega, rfl, by go_num, HB10, HZ10, HPS10, HF10, HK10, HC10, HX10⟩
          case measure => simp [intOf] <;> omega
    · have HL5 : Hid (∀ x ∈ xss, x.length ≤ 24 ∧ Lits 5 x) := by show ∀ x ∈ xss, _; rw [HX.out]; exact flat_mem HF.out
      have hdL : dL ≤ 9223372036854775807 := ownPr_cap_ HPS.out
      have HBES : Hid (besideR 5 xss [] = (0, 0)) := beside_par (by rw [HC.out.len]; omega) HL5.out
      have hcase : ((i : Int) < (m : Int) ∧ ¬ (i : Int) < 4) ∨ ¬ (i : Int) < (m : Int) := by omega
      rcases hcase with ⟨s1, s2⟩ | s1
      all_goals
        go_wp2_with fail
        refine (solve_any L i dL (w.heap.size + 1) w.heap.size ps wr HPS.out (by omega) hdL HF.out).mono ?_
        rintro e wa ⟨st, R, nr, dr, X, nx, dx, rfl, hba, hst⟩
        rcases hst with ⟨rfl, hrs⟩ | ⟨rfl, rfl, qs, hXo, rows, hrs, hpq⟩
        · as_aux_lemma =>
            have HKa := Lib.hid (HK.out.keep hba)
            have HCa := Lib.hid (HC.out.keep hba)
            have HBa := Lib.hid (below_next HB.out hba)
            have HRS := Lib.hid hrs
            have hcn : Hid (cntF xss 32 = 0) := by show _ = _; rw [HX.out]; exact cnt_zero (fun a => par_none HF.out hrs a)
            clear hrs
            clear HK HC HB hba HPS k0 k1 k4
            go_wp2_with fail
            obtain ⟨wb, hwb⟩ : ∃ z : World, z = wa.alloc (.cells #[.int .i64 0, .int .i64 0] 28) := ⟨_, rfl⟩
            have hbb : Below wa.heap.size wa wb := by rw [hwb]; exact below_new _ _
            have HKb := Lib.hid (HKa.out.keep hbb)
            have HCb := Lib.hid (HCa.out.keep hbb)
            have HBb := Lib.hid (below_next HBa.out hbb)
            try rw [← hwb]
            clear hwb hbb HKa HCa HBa
            refine (sure_any wb).mono ?_
            rintro e wc ⟨rfl, hbc⟩
            have HKc := Lib.hid (HKb.out.keep hbc)
            have HCc := Lib.hid (HCb.out.keep hbc)
            have HBc := Lib.hid (below_next HBb.out hbc)
            have k0 := HKc.out.cell 0
            have k1 := HKc.out.cell 1
            have k4 := HKc.out.lt
            simp at k0 k1
            clear hbc HKb HCb HBb
            go_wp2_with fail
            refine (models_any C nC cC xss wc HCc.out.grid (fun x hx => (HL5.out x hx).2)).mono ?_
            rintro e wd ⟨rfl, hbd⟩
            have HKd := Lib.hid (HKc.out.keep hbd)
            have HCd := Lib.hid (HCc.out.keep hbd)
            have HBd := Lib.hid (below_next HBc.out hbd)
            clear k0 k1 k4
            have k0 := HKd.out.cell 0
            have k1 := HKd.out.cell 1
            have k4 := HKd.out.lt
            simp at k0 k1
            clear hbd HKc HCc HBc
            rw [hcn.out]
            go_wp2_with fail
            obtain ⟨wz, hwz⟩ : ∃ z : World, z = wd.drew := ⟨_, rfl⟩
            have hbz : Below wd.heap.size wd wz := by rw [hwz]; exact below_drewN _ 1
            have HKz := Lib.hid (HKd.out.keep hbz)
            have HCz := Lib.hid (HCd.out.keep hbz)
            have HBz := Lib.hid (below_next HBd.out hbz)
            have kz0 := HKz.out.cell 0
            have kz1 := HKz.out.cell 1
            have kz4 := HKz.out.lt
            simp at kz0 kz1
            have hS : wz.cell? ⟨w.heap.size, 0, none⟩ = some (.int .i64 5) ∧ wz.cell? ⟨w.heap.size, 1, none⟩ = some (.slice C nC cC) := ⟨kz0, kz1⟩
            have HZ0 := Lib.hid (Below.refl wz.heap.size wz)
            have HNN : Hid (C = none → cC = 0) := ownP_nil_ HCz.out
            have HLL : Hid (∀ a, C = some a → a.block < wz.heap.size) := ownP_lt_ HCz.out
            clear hbz HKd HCd HBd k0 k1 k4
            refine wp_region_tail (fun w' => w'.cell? ⟨w.heap.size, 0, none⟩ = some (.int .i64 5) ∧ w'.cell? ⟨w.heap.size, 1, none⟩ = some (.slice C nC cC)) [9, 10] (by kernel_rfl) ?_
            change wpAnyT _ _ _ _ _ _ _ _ _ wd.drew
            rw [← hwz]
            clear hwz
            refine takeS (i := 0) (oi := _) (v := ?_) rfl (by kernel_rfl) (by kernel_rfl) (by kernel_rfl) (fun _ _ _ h => h) rfl (by kernel_rfl) (by kernel_rfl) (Or.inl ⟨by rfl, ?_⟩) hS ?_
            rotate_left
            · intro w0 hSw; (try dsimp only at hSw); go_simp; with_reducible rfl
            (try simp only [Act.put, List.setIfInBounds_toArray, List.set_cons_zero, List.set_cons_succ])
            refine take0 (i := 1) (oi := _) (v := ?_) rfl (by kernel_rfl) (by kernel_rfl) (by kernel_rfl) (fun _ _ _ h => h) rfl (Or.inl ⟨by rfl, ?_⟩) (fun _ => hS) ?_
            rotate_left
            · intro w0; go_simp; with_reducible rfl
            (try simp only [Act.put, List.setIfInBounds_toArray, List.set_cons_zero, List.set_cons_succ])
            refine threeT_ (i := 2) (j := 7) (k := 8) (by kernel_rfl) rfl (by rfl) rfl (by rfl) rfl (by rfl) (fun K hK => ?_) (fun K hK => ?_) (fun K hK => ?_)
            · go_simp
              refine (optionsOf_any o wz HOP.out).mono ?_
              rintro e v1_ ⟨so, ro, ko, po, rfl, hs1, hs2, hs3, hs4, b1⟩
              have HZ1 := Lib.hid (below_next HZ0.out b1)
              have hS : v1_.cell? ⟨w.heap.size, 0, none⟩ = some (.int .i64 5) ∧ v1_.cell? ⟨w.heap.size, 1, none⟩ = some (.slice C nC cC) := ⟨keepBox HZ1.out kz0, keepBox HZ1.out kz1⟩
              clear b1
              refine hK _ _ (fun _ => hS) ?_
              clear hK
              (try simp only [Act.put, List.setIfInBounds_toArray, List.set_cons_zero, List.set_cons_succ])
              refine threeT_ (i := 3) (j := 7) (k := 8) (by kernel_rfl) rfl (by rfl) rfl (by rfl) rfl (by rfl) (fun K hK => ?_) (fun K hK => ?_) (fun K hK => ?_)
              · go_simp
                have hlw := HZ1.out.size
                refine (cdcl_any C none nC cC 0 0 xss [] 5 v1_ (HCz.out.grid.keep HZ1.out) HNN.out (fun a ha => Nat.lt_of_lt_of_le (HLL.out a ha) hlw) ⟨Sl_nil v1_, by simp⟩ HBES.out so ro ko po hs1 hs2 hs3 hs4 2000 (Nat.le_refl _) core_none).mono ?_
                rintro e v2_ ⟨st9, hb9, hn9, hc9, S9, ns9, cs9, K9, nk9, ck9, used9, rfl, b2, ha9⟩
                obtain rfl : st9 = 2 := answ_par (qs := []) HF.out (by rw [← HX.out]; exact ha9) (.inl ⟨rfl, HRS.out⟩)
                clear ha9 hlw
                have HZ2 := Lib.hid (below_next HZ1.out b2)
                have hS : v2_.cell? ⟨w.heap.size, 0, none⟩ = some (.int .i64 5) ∧ v2_.cell? ⟨w.heap.size, 1, none⟩ = some (.slice C nC cC) := ⟨keepBox HZ2.out kz0, keepBox HZ2.out kz1⟩
                clear b2
                refine hK _ _ (fun _ => hS) ?_
                clear hK
                (try simp only [Act.put, List.setIfInBounds_toArray, List.set_cons_zero, List.set_cons_succ])
                refine take0 (i := 4) (oi := _) (v := ?_) rfl (by kernel_rfl) (by kernel_rfl) (by kernel_rfl) (fun _ _ _ h => h) rfl (Or.inl ⟨by rfl, ?_⟩) (fun _ => hS) ?_
                rotate_left
                · intro w0; go_simp; with_reducible rfl
                (try simp only [Act.put, List.setIfInBounds_toArray, List.set_cons_zero, List.set_cons_succ])
                refine take0 (i := 5) (oi := _) (v := ?_) rfl (by kernel_rfl) (by kernel_rfl) (by kernel_rfl) (fun _ _ _ h => h) rfl (Or.inl ⟨by rfl, ?_⟩) (fun _ => hS) ?_
                rotate_left
                · intro w0; go_simp; with_reducible rfl
                (try simp only [Act.put, List.setIfInBounds_toArray, List.set_cons_zero, List.set_cons_succ])
                refine take0 (i := 6) (oi := _) (v := ?_) rfl (by kernel_rfl) (by kernel_rfl) (by kernel_rfl) (fun _ _ _ h => h) rfl (Or.inl ⟨by rfl, ?_⟩) (fun _ => hS) ?_
                rotate_left
                · intro w0; go_simp; with_reducible rfl
                (try simp only [Act.put, List.setIfInBounds_toArray, List.set_cons_zero, List.set_cons_succ])
                refine twoT (i := 7) (j := 8) (by kernel_rfl) rfl (by rfl) rfl (by rfl) (fun K hK => ?_) (fun K hK => ?_)
                · go_simp
                  obtain ⟨v3_, h3⟩ : ∃ z : World, z = v2_.alloc (.cells #[.int .i64 0, .slice none 0 0, .slice none 0 0, .slice none 0 0, .int .i64 0] 46) := ⟨_, rfl⟩
                  have b3 : Below v2_.heap.size v2_ v3_ := by rw [h3]; exact below_new _ _
                  have KA3 : Hid (Blk v3_ v2_.heap.size 46 #[.int .i64 0, .slice none 0 0, .slice none 0 0, .slice none 0 0, .int .i64 0]) := by rw [h3]; exact Blk.new _ _ _
                  rw [← h3]
                  obtain ⟨bA, hbA⟩ : ∃ z : Nat, v2_.heap.size = z := ⟨_, rfl⟩
                  have hg3 : wz.heap.size ≤ bA := by rw [← hbA]; exact HZ2.out.size
                  rw [hbA] at KA3 ⊢
                  have HZ3 := Lib.hid (below_next HZ2.out b3)
                  have hS : v3_.cell? ⟨w.heap.size, 0, none⟩ = some (.int .i64 5) ∧ v3_.cell? ⟨w.heap.size, 1, none⟩ = some (.slice C nC cC) := ⟨keepBox HZ3.out kz0, keepBox HZ3.out kz1⟩
                  clear h3 hbA
                  clear b3
                  refine hK _ _ (fun _ => hS) ?_
                  clear hK
                  (try simp only [Act.put, List.setIfInBounds_toArray, List.set_cons_zero, List.set_cons_succ])
                  refine oneT (i := 8) (by kernel_rfl) rfl (by rfl) (fun K hK => ?_)
                  go_simp
                  obtain ⟨v4_, h4⟩ : ∃ z : World, z = v3_.alloc (.cells #[.int .i64 0, .int .i64 0] 28) := ⟨_, rfl⟩
                  have b4 : Below v3_.heap.size v3_ v4_ := by rw [h4]; exact below_new _ _
                  have KB4 : Hid (Blk v4_ v3_.heap.size 28 #[.int .i64 0, .int .i64 0]) := by rw [h4]; exact Blk.new _ _ _
                  rw [← h4]
                  obtain ⟨bB, hbB⟩ : ∃ z : Nat, v3_.heap.size = z := ⟨_, rfl⟩
                  have hg4 : wz.heap.size ≤ bB := by rw [← hbB]; exact HZ3.out.size
                  rw [hbB] at KB4 ⊢
                  have hne : bA ≠ bB := by have := KA3.out.lt; omega
                  have KA4 := Lib.hid (KA3.out.keep b4)
                  have HZ4 := Lib.hid (below_next HZ3.out b4)
                  have hS : v4_.cell? ⟨w.heap.size, 0, none⟩ = some (.int .i64 5) ∧ v4_.cell? ⟨w.heap.size, 1, none⟩ = some (.slice C nC cC) := ⟨keepBox HZ4.out kz0, keepBox HZ4.out kz1⟩
                  clear h4 hbB
                  clear b4
                  refine hK _ _ (fun _ => hS) ?_
                  clear hK
                  (try simp only [Act.put, List.setIfInBounds_toArray, List.set_cons_zero, List.set_cons_succ])
                  refine oneT (i := 9) (by kernel_rfl) rfl (by rfl) (fun K hK => ?_)
                  have e0 := KA4.out.cell 0
                  have e1 := KA4.out.cell 1
                  have e2 := KA4.out.cell 2
                  have e3 := KA4.out.cell 3
                  have e4 := KA4.out.cell 4
                  have f0 := KA4.out.frozen 0
                  have f1 := KA4.out.frozen 1
                  have f2 := KA4.out.frozen 2
                  have f3 := KA4.out.frozen 3
                  have f4 := KA4.out.frozen 4
                  simp at e0 e1 e2 e3 e4
                  have le := KA4.out.lt
                  have pp := put5 KA4.out KB4.out hne HZ4.out hg3 (.int .i64 2) (.slice hb9 hn9 hc9) (.slice S9 ns9 cs9) (.slice K9 nk9 ck9) (.int .i64 used9)
                  go_simp
                  clear e0 e1 e2 e3 e4 f0 f1 f2 f3 f4 le
                  refine hK _ _ (noT_no (by kernel_rfl)) ?_
                  clear hK
                  (try simp only [Act.put, List.setIfInBounds_toArray, List.set_cons_zero, List.set_cons_succ])
                  obtain ⟨v5, hv5⟩ : ∃ z : World, z = (((((v4_.setCell ⟨bA, 0, none⟩ (.int .i64 2)).setCell ⟨bA, 1, none⟩ (.slice hb9 hn9 hc9)).setCell ⟨bA, 2, none⟩ (.slice S9 ns9 cs9)).setCell ⟨bA, 3, none⟩ (.slice K9 nk9 ck9)).setCell ⟨bA, 4, none⟩ (.int .i64 used9)) := ⟨_, rfl⟩
                  obtain ⟨p1, p2, p3⟩ := pp
                  rw [← hv5] at p1 p2 p3 ⊢
                  have P1 := Lib.hid p1
                  have P2 := Lib.hid p2
                  have P3 := Lib.hid p3
                  clear hv5 p1 p2 p3
                  refine oneT (i := 10) (by kernel_rfl) rfl (by rfl) (fun K hK => ?_)
                  have e0 := P2.out.cell 0
                  have e1 := P2.out.cell 1
                  have f0 := P2.out.frozen 0
                  have f1 := P2.out.frozen 1
                  simp at e0 e1
                  have le := P2.out.lt
                  have pq := put2_ P1.out P2.out hne P3.out hg4
                  go_simp
                  clear e0 e1 f0 f1 le
                  refine hK _ _ (noT_no (by kernel_rfl)) ?_
                  clear hK
                  (try simp only [Act.put, List.setIfInBounds_toArray, List.set_cons_zero, List.set_cons_succ])
                  obtain ⟨v6, hv6⟩ : ∃ z : World, z = ((v5.setCell ⟨bB, 0, none⟩ (.int .i64 0)).setCell ⟨bB, 1, none⟩ (.int .i64 0)) := ⟨_, rfl⟩
                  obtain ⟨p1, p2, p3⟩ := pq
                  rw [← hv6] at p1 p2 p3 ⊢
                  have Q1 := Lib.hid p1
                  have Q2 := Lib.hid p2
                  have Q3 := Lib.hid p3
                  clear hv6 p1 p2 p3 P1 P2 P3
                  refine doneT (by kernel_rfl) ?_ _
                  have c1 := keepBox Q3.out kz1
                  have zc := (cell_lt c1).1
                  have a0 := Q1.out.cell 0
                  have a4 := Q1.out.lt
                  have b0 := Q2.out.cell 0
                  have b4 := Q2.out.lt
                  simp at a0 b0
                  by_cases h40 : (40 : Int) < (nC : Int)
                  all_goals
                    go_wp2_with fail
                    go_ret
                    exact ⟨rfl, below_next HBz.out Q3.out⟩
                · go_simp
                  obtain ⟨v5_, h5⟩ : ∃ z : World, z = v2_.alloc (.cells #[.int .i64 0, .int .i64 0] 28) := ⟨_, rfl⟩
                  have b5 : Below v2_.heap.size v2_ v5_ := by rw [h5]; exact below_new _ _
                  have KB5 : Hid (Blk v5_ v2_.heap.size 28 #[.int .i64 0, .int .i64 0]) := by rw [h5]; exact Blk.new _ _ _
                  rw [← h5]
                  obtain ⟨bB, hbB⟩ : ∃ z : Nat, v2_.heap.size = z := ⟨_, rfl⟩
                  have hg5 : wz.heap.size ≤ bB := by rw [← hbB]; exact HZ2.out.size
                  rw [hbB] at KB5 ⊢
                  have HZ5 := Lib.hid (below_next HZ2.out b5)
                  have hS : v5_.cell? ⟨w.heap.size, 0, none⟩ = some (.int .i64 5) ∧ v5_.cell? ⟨w.heap.size, 1, none⟩ = some (.slice C nC cC) := ⟨keepBox HZ5.out kz0, keepBox HZ5.out kz1⟩
                  clear h5 hbB
                  clear b5
                  refine hK _ _ (fun _ => hS) ?_
                  clear hK
                  (try simp only [Act.put, List.setIfInBounds_toArray, List.set_cons_zero, List.set_cons_succ])
                  refine oneT (i := 7) (by kernel_rfl) rfl (by rfl) (fun K hK => ?_)
                  go_simp
                  obtain ⟨v6_, h6⟩ : ∃ z : World, z = v5_.alloc (.cells #[.int .i64 0, .slice none 0 0, .slice none 0 0, .slice none 0 0, .int .i64 0] 46) := ⟨_, rfl⟩
                  have b6 : Below v5_.heap.size v5_ v6_ := by rw [h6]; exact below_new _ _
                  have KA6 : Hid (Blk v6_ v5_.heap.size 46 #[.int .i64 0, .slice none 0 0, .slice none 0 0, .slice none 0 0, .int .i64 0]) := by rw [h6]; exact Blk.new _ _ _
                  rw [← h6]
                  obtain ⟨bA, hbA⟩ : ∃ z : Nat, v5_.heap.size = z := ⟨_, rfl⟩
                  have hg6 : wz.heap.size ≤ bA := by rw [← hbA]; exact HZ5.out.size
                  rw [hbA] at KA6 ⊢
                  have hne : bA ≠ bB := by have := KB5.out.lt; omega
                  have KB6 := Lib.hid (KB5.out.keep b6)
                  have HZ6 := Lib.hid (below_next HZ5.out b6)
                  have hS : v6_.cell? ⟨w.heap.size, 0, none⟩ = some (.int .i64 5) ∧ v6_.cell? ⟨w.heap.size, 1, none⟩ = some (.slice C nC cC) := ⟨keepBox HZ6.out kz0, keepBox HZ6.out kz1⟩
                  clear h6 hbA
                  clear b6
                  refine hK _ _ (fun _ => hS) ?_
                  clear hK
                  (try simp only [Act.put, List.setIfInBounds_toArray, List.set_cons_zero, List.set_cons_succ])
                  refine oneT (i := 9) (by kernel_rfl) rfl (by rfl) (fun K hK => ?_)
                  have e0 := KA6.out.cell 0
                  have e1 := KA6.out.cell 1
                  have e2 := KA6.out.cell 2
                  have e3 := KA6.out.cell 3
                  have e4 := KA6.out.cell 4
                  have f0 := KA6.out.frozen 0
                  have f1 := KA6.out.frozen 1
                  have f2 := KA6.out.frozen 2
                  have f3 := KA6.out.frozen 3
                  have f4 := KA6.out.frozen 4
                  simp at e0 e1 e2 e3 e4
                  have le := KA6.out.lt
                  have pp := put5 KA6.out KB6.out hne HZ6.out hg6 (.int .i64 2) (.slice hb9 hn9 hc9) (.slice S9 ns9 cs9) (.slice K9 nk9 ck9) (.int .i64 used9)
                  go_simp
                  clear e0 e1 e2 e3 e4 f0 f1 f2 f3 f4 le
                  refine hK _ _ (noT_no (by kernel_rfl)) ?_
                  clear hK
                  (try simp only [Act.put, List.setIfInBounds_toArray, List.set_cons_zero, List.set_cons_succ])
                  obtain ⟨v5, hv5⟩ : ∃ z : World, z = (((((v6_.setCell ⟨bA, 0, none⟩ (.int .i64 2)).setCell ⟨bA, 1, none⟩ (.slice hb9 hn9 hc9)).setCell ⟨bA, 2, none⟩ (.slice S9 ns9 cs9)).setCell ⟨bA, 3, none⟩ (.slice K9 nk9 ck9)).setCell ⟨bA, 4, none⟩ (.int .i64 used9)) := ⟨_, rfl⟩
                  obtain ⟨p1, p2, p3⟩ := pp
                  rw [← hv5] at p1 p2 p3 ⊢
                  have P1 := Lib.hid p1
                  have P2 := Lib.hid p2
                  have P3 := Lib.hid p3
                  clear hv5 p1 p2 p3
                  refine oneT (i := 10) (by kernel_rfl) rfl (by rfl) (fun K hK => ?_)
                  have e0 := P2.out.cell 0
                  have e1 := P2.out.cell 1
                  have f0 := P2.out.frozen 0
                  have f1 := P2.out.frozen 1
                  simp at e0 e1
                  have le := P2.out.lt
                  have pq := put2_ P1.out P2.out hne P3.out hg5
                  go_simp
                  clear e0 e1 f0 f1 le
                  refine hK _ _ (noT_no (by kernel_rfl)) ?_
                  clear hK
                  (try simp only [Act.put, List.setIfInBounds_toArray, List.set_cons_zero, List.set_cons_succ])
                  obtain ⟨v6, hv6⟩ : ∃ z : World, z = ((v5.setCell ⟨bB, 0, none⟩ (.int .i64 0)).setCell ⟨bB, 1, none⟩ (.int .i64 0)) := ⟨_, rfl⟩
                  obtain ⟨p1, p2, p3⟩ := pq
                  rw [← hv6] at p1 p2 p3 ⊢
                  have Q1 := Lib.hid p1
                  have Q2 := Lib.hid p2
                  have Q3 := Lib.hid p3
                  clear hv6 p1 p2 p3 P1 P2 P3
                  refine doneT (by kernel_rfl) ?_ _
                  have c1 := keepBox Q3.out kz1
                  have zc := (cell_lt c1).1
                  have a0 := Q1.out.cell 0
                  have a4 := Q1.out.lt
                  have b0 := Q2.out.cell 0
                  have b4 := Q2.out.lt
                  simp at a0 b0
                  by_cases h40 : (40 : Int) < (nC : Int)
                  all_goals
                    go_wp2_with fail
                    go_ret
                    exact ⟨rfl, below_next HBz.out Q3.out⟩
              · go_simp
                obtain ⟨v7_, h7⟩ : ∃ z : World, z = v1_.alloc (.cells #[.int .i64 0, .slice none 0 0, .slice none 0 0, .slice none 0 0, .int .i64 0] 46) := ⟨_, rfl⟩
                have b7 : Below v1_.heap.size v1_ v7_ := by rw [h7]; exact below_new _ _
                have KA7 : Hid (Blk v7_ v1_.heap.size 46 #[.int .i64 0, .slice none 0 0, .slice none 0 0, .slice none 0 0, .int .i64 0]) := by rw [h7]; exact Blk.new _ _ _
                rw [← h7]
                obtain ⟨bA, hbA⟩ : ∃ z : Nat, v1_.heap.size = z := ⟨_, rfl⟩
                have hg7 : wz.heap.size ≤ bA := by rw [← hbA]; exact HZ1.out.size
                rw [hbA] at KA7 ⊢
                have HZ7 := Lib.hid (below_next HZ1.out b7)
                have hS : v7_.cell? ⟨w.heap.size, 0, none⟩ = some (.int .i64 5) ∧ v7_.cell? ⟨w.heap.size, 1, none⟩ = some (.slice C nC cC) := ⟨keepBox HZ7.out kz0, keepBox HZ7.out kz1⟩
                clear h7 hbA
                clear b7
                refine hK _ _ (fun _ => hS) ?_
                clear hK
                (try simp only [Act.put, List.setIfInBounds_toArray, List.set_cons_zero, List.set_cons_succ])
                refine twoT (i := 3) (j := 8) (by kernel_rfl) rfl (by rfl) rfl (by rfl) (fun K hK => ?_) (fun K hK => ?_)
                · go_simp
                  have hlw := HZ7.out.size
                  refine (cdcl_any C none nC cC 0 0 xss [] 5 v7_ (HCz.out.grid.keep HZ7.out) HNN.out (fun a ha => Nat.lt_of_lt_of_le (HLL.out a ha) hlw) ⟨Sl_nil v7_, by simp⟩ HBES.out so ro ko po hs1 hs2 hs3 hs4 2000 (Nat.le_refl _) core_none).mono ?_
                  rintro e v8_ ⟨st9, hb9, hn9, hc9, S9, ns9, cs9, K9, nk9, ck9, used9, rfl, b8, ha9⟩
                  obtain rfl : st9 = 2 := answ_par (qs := []) HF.out (by rw [← HX.out]; exact ha9) (.inl ⟨rfl, HRS.out⟩)
                  clear ha9 hlw
                  have KA8 := Lib.hid (KA7.out.keep b8)
                  have HZ8 := Lib.hid (below_next HZ7.out b8)
                  have hS : v8_.cell? ⟨w.heap.size, 0, none⟩ = some (.int .i64 5) ∧ v8_.cell? ⟨w.heap.size, 1, none⟩ = some (.slice C nC cC) := ⟨keepBox HZ8.out kz0, keepBox HZ8.out kz1⟩
                  clear b8
                  refine hK _ _ (fun _ => hS) ?_
                  clear hK
                  (try simp only [Act.put, List.setIfInBounds_toArray, List.set_cons_zero, List.set_cons_succ])
                  refine take0 (i := 4) (oi := _) (v := ?_) rfl (by kernel_rfl) (by kernel_rfl) (by kernel_rfl) (fun _ _ _ h => h) rfl (Or.inl ⟨by rfl, ?_⟩) (fun _ => hS) ?_
                  rotate_left
                  · intro w0; go_simp; with_reducible rfl
                  (try simp only [Act.put, List.setIfInBounds_toArray, List.set_cons_zero, List.set_cons_succ])
                  refine take0 (i := 5) (oi := _) (v := ?_) rfl (by kernel_rfl) (by kernel_rfl) (by kernel_rfl) (fun _ _ _ h => h) rfl (Or.inl ⟨by rfl, ?_⟩) (fun _ => hS) ?_
                  rotate_left
                  · intro w0; go_simp; with_reducible rfl
                  (try simp only [Act.put, List.setIfInBounds_toArray, List.set_cons_zero, List.set_cons_succ])
                  refine take0 (i := 6) (oi := _) (v := ?_) rfl (by kernel_rfl) (by kernel_rfl) (by kernel_rfl) (fun _ _ _ h => h) rfl (Or.inl ⟨by rfl, ?_⟩) (fun _ => hS) ?_
                  rotate_left
                  · intro w0; go_simp; with_reducible rfl
                  (try simp only [Act.put, List.setIfInBounds_toArray, List.set_cons_zero, List.set_cons_succ])
                  refine oneT (i := 8) (by kernel_rfl) rfl (by rfl) (fun K hK => ?_)
                  go_simp
                  obtain ⟨v9_, h9⟩ : ∃ z : World, z = v8_.alloc (.cells #[.int .i64 0, .int .i64 0] 28) := ⟨_, rfl⟩
                  have b9 : Below v8_.heap.size v8_ v9_ := by rw [h9]; exact below_new _ _
                  have KB9 : Hid (Blk v9_ v8_.heap.size 28 #[.int .i64 0, .int .i64 0]) := by rw [h9]; exact Blk.new _ _ _
                  rw [← h9]
                  obtain ⟨bB, hbB⟩ : ∃ z : Nat, v8_.heap.size = z := ⟨_, rfl⟩
                  have hg9 : wz.heap.size ≤ bB := by rw [← hbB]; exact HZ8.out.size
                  rw [hbB] at KB9 ⊢
                  have hne : bA ≠ bB := by have := KA8.out.lt; omega
                  have KA9 := Lib.hid (KA8.out.keep b9)
                  have HZ9 := Lib.hid (below_next HZ8.out b9)
                  have hS : v9_.cell? ⟨w.heap.size, 0, none⟩ = some (.int .i64 5) ∧ v9_.cell? ⟨w.heap.size, 1, none⟩ = some (.slice C nC cC) := ⟨keepBox HZ9.out kz0, keepBox HZ9.out kz1⟩
                  clear h9 hbB
                  clear b9
                  refine hK _ _ (fun _ => hS) ?_
                  clear hK
                  (try simp only [Act.put, List.setIfInBounds_toArray, List.set_cons_zero, List.set_cons_succ])
                  refine oneT (i := 9) (by kernel_rfl) rfl (by rfl) (fun K hK => ?_)
                  have e0 := KA9.out.cell 0
                  have e1 := KA9.out.cell 1
                  have e2 := KA9.out.cell 2
                  have e3 := KA9.out.cell 3
                  have e4 := KA9.out.cell 4
                  have f0 := KA9.out.frozen 0
                  have f1 := KA9.out.frozen 1
                  have f2 := KA9.out.frozen 2
                  have f3 := KA9.out.frozen 3
                  have f4 := KA9.out.frozen 4
                  simp at e0 e1 e2 e3 e4
                  have le := KA9.out.lt
                  have pp := put5 KA9.out KB9.out hne HZ9.out hg7 (.int .i64 2) (.slice hb9 hn9 hc9) (.slice S9 ns9 cs9) (.slice K9 nk9 ck9) (.int .i64 used9)
                  go_simp
                  clear e0 e1 e2 e3 e4 f0 f1 f2 f3 f4 le
                  refine hK _ _ (noT_no (by kernel_rfl)) ?_
                  clear hK
                  (try simp only [Act.put, List.setIfInBounds_toArray, List.set_cons_zero, List.set_cons_succ])
                  obtain ⟨v5, hv5⟩ : ∃ z : World, z = (((((v9_.setCell ⟨bA, 0, none⟩ (.int .i64 2)).setCell ⟨bA, 1, none⟩ (.slice hb9 hn9 hc9)).setCell ⟨bA, 2, none⟩ (.slice S9 ns9 cs9)).setCell ⟨bA, 3, none⟩ (.slice K9 nk9 ck9)).setCell ⟨bA, 4, none⟩ (.int .i64 used9)) := ⟨_, rfl⟩
                  obtain ⟨p1, p2, p3⟩ := pp
                  rw [← hv5] at p1 p2 p3 ⊢
                  have P1 := Lib.hid p1
                  have P2 := Lib.hid p2
                  have P3 := Lib.hid p3
                  clear hv5 p1 p2 p3
                  refine oneT (i := 10) (by kernel_rfl) rfl (by rfl) (fun K hK => ?_)
                  have e0 := P2.out.cell 0
                  have e1 := P2.out.cell 1
                  have f0 := P2.out.frozen 0
                  have f1 := P2.out.frozen 1
                  simp at e0 e1
                  have le := P2.out.lt
                  have pq := put2_ P1.out P2.out hne P3.out hg9
                  go_simp
                  clear e0 e1 f0 f1 le
                  refine hK _ _ (noT_no (by kernel_rfl)) ?_
                  clear hK
                  (try simp only [Act.put, List.setIfInBounds_toArray, List.set_cons_zero, List.set_cons_succ])
                  obtain ⟨v6, hv6⟩ : ∃ z : World, z = ((v5.setCell ⟨bB, 0, none⟩ (.int .i64 0)).setCell ⟨bB, 1, none⟩ (.int .i64 0)) := ⟨_, rfl⟩
                  obtain ⟨p1, p2, p3⟩ := pq
                  rw [← hv6] at p1 p2 p3 ⊢
                  have Q1 := Lib.hid p1
                  have Q2 := Lib.hid p2
                  have Q3 := Lib.hid p3
                  clear hv6 p1 p2 p3 P1 P2 P3
                  refine doneT (by kernel_rfl) ?_ _
                  have c1 := keepBox Q3.out kz1
                  have zc := (cell_lt c1).1
                  have a0 := Q1.out.cell 0
                  have a4 := Q1.out.lt
                  have b0 := Q2.out.cell 0
                  have b4 := Q2.out.lt
                  simp at a0 b0
                  by_cases h40 : (40 : Int) < (nC : Int)
                  all_goals
                    go_wp2_with fail
                    go_ret
                    exact ⟨rfl, below_next HBz.out Q3.out⟩
                · go_simp
                  obtain ⟨v10_, h10⟩ : ∃ z : World, z = v7_.alloc (.cells #[.int .i64 0, .int .i64 0] 28) := ⟨_, rfl⟩
                  have b10 : Below v7_.heap.size v7_ v10_ := by rw [h10]; exact below_new _ _
                  have KB10 : Hid (Blk v10_ v7_.heap.size 28 #[.int .i64 0, .int .i64 0]) := by rw [h10]; exact Blk.new _ _ _
                  rw [← h10]
                  obtain ⟨bB, hbB⟩ : ∃ z : Nat, v7_.heap.size = z := ⟨_, rfl⟩
                  have hg10 : wz.heap.size ≤ bB := by rw [← hbB]; exact HZ7.out.size
                  rw [hbB] at KB10 ⊢
                  have hne : bA ≠ bB := by have := KA7.out.lt; omega
                  have KA10 := Lib.hid (KA7.out.keep b10)
                  have HZ10 := Lib.hid (below_next HZ7.out b10)
                  have hS : v10_.cell? ⟨w.heap.size, 0, none⟩ = some (.int .i64 5) ∧ v10_.cell? ⟨w.heap.size, 1, none⟩ = some (.slice C nC cC) := ⟨keepBox HZ10.out kz0, keepBox HZ10.out kz1⟩
                  clear h10 hbB
                  clear b10
                  refine hK _ _ (fun _ => hS) ?_
                  clear hK
                  (try simp only [Act.put, List.setIfInBounds_toArray, List.set_cons_zero, List.set_cons_succ])
                  refine oneT (i := 3) (by kernel_rfl) rfl (by rfl) (fun K hK => ?_)
                  go_simp
                  have hlw := HZ10.out.size
                  refine (cdcl_any C none nC cC 0 0 xss [] 5 v10_ (HCz.out.grid.keep HZ10.out) HNN.out (fun a ha => Nat.lt_of_lt_of_le (HLL.out a ha) hlw) ⟨Sl_nil v10_, by simp⟩ HBES.out so ro ko po hs1 hs2 hs3 hs4 2000 (Nat.le_refl _) core_none).mono ?_
                  rintro e v11_ ⟨st9, hb9, hn9, hc9, S9, ns9, cs9, K9, nk9, ck9, used9, rfl, b11, ha9⟩
                  obtain rfl : st9 = 2 := answ_par (qs := []) HF.out (by rw [← HX.out]; exact ha9) (.inl ⟨rfl, HRS.out⟩)
                  clear ha9 hlw
                  have KA11 := Lib.hid (KA10.out.keep b11)
                  have KB11 := Lib.hid (KB10.out.keep b11)
                  have HZ11 := Lib.hid (below_next HZ10.out b11)
                  have hS : v11_.cell? ⟨w.heap.size, 0, none⟩ = some (.int .i64 5) ∧ v11_.cell? ⟨w.heap.size, 1, none⟩ = some (.slice C nC cC) := ⟨keepBox HZ11.out kz0, keepBox HZ11.out kz1⟩
                  clear b11
                  refine hK _ _ (fun _ => hS) ?_
                  clear hK
                  (try simp only [Act.put, List.setIfInBounds_toArray, List.set_cons_zero, List.set_cons_succ])
                  refine take0 (i := 4) (oi := _) (v := ?_) rfl (by kernel_rfl) (by kernel_rfl) (by kernel_rfl) (fun _ _ _ h => h) rfl (Or.inl ⟨by rfl, ?_⟩) (fun _ => hS) ?_
                  rotate_left
                  · intro w0; go_simp; with_reducible rfl
                  (try simp only [Act.put, List.setIfInBounds_toArray, List.set_cons_zero, List.set_cons_succ])
                  refine take0 (i := 5) (oi := _) (v := ?_) rfl (by kernel_rfl) (by kernel_rfl) (by kernel_rfl) (fun _ _ _ h => h) rfl (Or.inl ⟨by rfl, ?_⟩) (fun _ => hS) ?_
                  rotate_left
                  · intro w0; go_simp; with_reducible rfl
                  (try simp only [Act.put, List.setIfInBounds_toArray, List.set_cons_zero, List.set_cons_succ])
                  refine take0 (i := 6) (oi := _) (v := ?_) rfl (by kernel_rfl) (by kernel_rfl) (by kernel_rfl) (fun _ _ _ h => h) rfl (Or.inl ⟨by rfl, ?_⟩) (fun _ => hS) ?_
                  rotate_left
                  · intro w0; go_simp; with_reducible rfl
                  (try simp only [Act.put, List.setIfInBounds_toArray, List.set_cons_zero, List.set_cons_succ])
                  refine oneT (i := 9) (by kernel_rfl) rfl (by rfl) (fun K hK => ?_)
                  have e0 := KA11.out.cell 0
                  have e1 := KA11.out.cell 1
                  have e2 := KA11.out.cell 2
                  have e3 := KA11.out.cell 3
                  have e4 := KA11.out.cell 4
                  have f0 := KA11.out.frozen 0
                  have f1 := KA11.out.frozen 1
                  have f2 := KA11.out.frozen 2
                  have f3 := KA11.out.frozen 3
                  have f4 := KA11.out.frozen 4
                  simp at e0 e1 e2 e3 e4
                  have le := KA11.out.lt
                  have pp := put5 KA11.out KB11.out hne HZ11.out hg7 (.int .i64 2) (.slice hb9 hn9 hc9) (.slice S9 ns9 cs9) (.slice K9 nk9 ck9) (.int .i64 used9)
                  go_simp
                  clear e0 e1 e2 e3 e4 f0 f1 f2 f3 f4 le
                  refine hK _ _ (noT_no (by kernel_rfl)) ?_
                  clear hK
                  (try simp only [Act.put, List.setIfInBounds_toArray, List.set_cons_zero, List.set_cons_succ])
                  obtain ⟨v5, hv5⟩ : ∃ z : World, z = (((((v11_.setCell ⟨bA, 0, none⟩ (.int .i64 2)).setCell ⟨bA, 1, none⟩ (.slice hb9 hn9 hc9)).setCell ⟨bA, 2, none⟩ (.slice S9 ns9 cs9)).setCell ⟨bA, 3, none⟩ (.slice K9 nk9 ck9)).setCell ⟨bA, 4, none⟩ (.int .i64 used9)) := ⟨_, rfl⟩
                  obtain ⟨p1, p2, p3⟩ := pp
                  rw [← hv5] at p1 p2 p3 ⊢
                  have P1 := Lib.hid p1
                  have P2 := Lib.hid p2
                  have P3 := Lib.hid p3
                  clear hv5 p1 p2 p3
                  refine oneT (i := 10) (by kernel_rfl) rfl (by rfl) (fun K hK => ?_)
                  have e0 := P2.out.cell 0
                  have e1 := P2.out.cell 1
                  have f0 := P2.out.frozen 0
                  have f1 := P2.out.frozen 1
                  simp at e0 e1
                  have le := P2.out.lt
                  have pq := put2_ P1.out P2.out hne P3.out hg10
                  go_simp
                  clear e0 e1 f0 f1 le
                  refine hK _ _ (noT_no (by kernel_rfl)) ?_
                  clear hK
                  (try simp only [Act.put, List.setIfInBounds_toArray, List.set_cons_zero, List.set_cons_succ])
                  obtain ⟨v6, hv6⟩ : ∃ z : World, z = ((v5.setCell ⟨bB, 0, none⟩ (.int .i64 0)).setCell ⟨bB, 1, none⟩ (.int .i64 0)) := ⟨_, rfl⟩
                  obtain ⟨p1, p2, p3⟩ := pq
                  rw [← hv6] at p1 p2 p3 ⊢
                  have Q1 := Lib.hid p1
                  have Q2 := Lib.hid p2
                  have Q3 := Lib.hid p3
                  clear hv6 p1 p2 p3 P1 P2 P3
                  refine doneT (by kernel_rfl) ?_ _
                  have c1 := keepBox Q3.out kz1
                  have zc := (cell_lt c1).1
                  have a0 := Q1.out.cell 0
                  have a4 := Q1.out.lt
                  have b0 := Q2.out.cell 0
                  have b4 := Q2.out.lt
                  simp at a0 b0
                  by_cases h40 : (40 : Int) < (nC : Int)
                  all_goals
                    go_wp2_with fail
                    go_ret
                    exact ⟨rfl, below_next HBz.out Q3.out⟩
              · go_simp
                obtain ⟨v12_, h12⟩ : ∃ z : World, z = v1_.alloc (.cells #[.int .i64 0, .int .i64 0] 28) := ⟨_, rfl⟩
                have b12 : Below v1_.heap.size v1_ v12_ := by rw [h12]; exact below_new _ _
                have KB12 : Hid (Blk v12_ v1_.heap.size 28 #[.int .i64 0, .int .i64 0]) := by rw [h12]; exact Blk.new _ _ _
                rw [← h12]
                obtain ⟨bB, hbB⟩ : ∃ z : Nat, v1_.heap.size = z := ⟨_, rfl⟩
                have hg12 : wz.heap.size ≤ bB := by rw [← hbB]; exact HZ1.out.size
                rw [hbB] at KB12 ⊢
                have HZ12 := Lib.hid (below_next HZ1.out b12)
                have hS : v12_.cell? ⟨w.heap.size, 0, none⟩ = some (.int .i64 5) ∧ v12_.cell? ⟨w.heap.size, 1, none⟩ = some (.slice C nC cC) := ⟨keepBox HZ12.out kz0, keepBox HZ12.out kz1⟩
                clear h12 hbB
                clear b12
                refine hK _ _ (fun _ => hS) ?_
                clear hK
                (try simp only [Act.put, List.setIfInBounds_toArray, List.set_cons_zero, List.set_cons_succ])
                refine twoT (i := 3) (j := 7) (by kernel_rfl) rfl (by rfl) rfl (by rfl) (fun K hK => ?_) (fun K hK => ?_)
                · go_simp
                  have hlw := HZ12.out.size
                  refine (cdcl_any C none nC cC 0 0 xss [] 5 v12_ (HCz.out.grid.keep HZ12.out) HNN.out (fun a ha => Nat.lt_of_lt_of_le (HLL.out a ha) hlw) ⟨Sl_nil v12_, by simp⟩ HBES.out so ro ko po hs1 hs2 hs3 hs4 2000 (Nat.le_refl _) core_none).mono ?_
                  rintro e v13_ ⟨st9, hb9, hn9, hc9, S9, ns9, cs9, K9, nk9, ck9, used9, rfl, b13, ha9⟩
                  obtain rfl : st9 = 2 := answ_par (qs := []) HF.out (by rw [← HX.out]; exact ha9) (.inl ⟨rfl, HRS.out⟩)
                  clear ha9 hlw
                  have KB13 := Lib.hid (KB12.out.keep b13)
                  have HZ13 := Lib.hid (below_next HZ12.out b13)
                  have hS : v13_.cell? ⟨w.heap.size, 0, none⟩ = some (.int .i64 5) ∧ v13_.cell? ⟨w.heap.size, 1, none⟩ = some (.slice C nC cC) := ⟨keepBox HZ13.out kz0, keepBox HZ13.out kz1⟩
                  clear b13
                  refine hK _ _ (fun _ => hS) ?_
                  clear hK
                  (try simp only [Act.put, List.setIfInBounds_toArray, List.set_cons_zero, List.set_cons_succ])
                  refine take0 (i := 4) (oi := _) (v := ?_) rfl (by kernel_rfl) (by kernel_rfl) (by kernel_rfl) (fun _ _ _ h => h) rfl (Or.inl ⟨by rfl, ?_⟩) (fun _ => hS) ?_
                  rotate_left
                  · intro w0; go_simp; with_reducible rfl
                  (try simp only [Act.put, List.setIfInBounds_toArray, List.set_cons_zero, List.set_cons_succ])
                  refine take0 (i := 5) (oi := _) (v := ?_) rfl (by kernel_rfl) (by kernel_rfl) (by kernel_rfl) (fun _ _ _ h => h) rfl (Or.inl ⟨by rfl, ?_⟩) (fun _ => hS) ?_
                  rotate_left
                  · intro w0; go_simp; with_reducible rfl
                  (try simp only [Act.put, List.setIfInBounds_toArray, List.set_cons_zero, List.set_cons_succ])
                  refine take0 (i := 6) (oi := _) (v := ?_) rfl (by kernel_rfl) (by kernel_rfl) (by kernel_rfl) (fun _ _ _ h => h) rfl (Or.inl ⟨by rfl, ?_⟩) (fun _ => hS) ?_
                  rotate_left
                  · intro w0; go_simp; with_reducible rfl
                  (try simp only [Act.put, List.setIfInBounds_toArray, List.set_cons_zero, List.set_cons_succ])
                  refine oneT (i := 7) (by kernel_rfl) rfl (by rfl) (fun K hK => ?_)
                  go_simp
                  obtain ⟨v14_, h14⟩ : ∃ z : World, z = v13_.alloc (.cells #[.int .i64 0, .slice none 0 0, .slice none 0 0, .slice none 0 0, .int .i64 0] 46) := ⟨_, rfl⟩
                  have b14 : Below v13_.heap.size v13_ v14_ := by rw [h14]; exact below_new _ _
                  have KA14 : Hid (Blk v14_ v13_.heap.size 46 #[.int .i64 0, .slice none 0 0, .slice none 0 0, .slice none 0 0, .int .i64 0]) := by rw [h14]; exact Blk.new _ _ _
                  rw [← h14]
                  obtain ⟨bA, hbA⟩ : ∃ z : Nat, v13_.heap.size = z := ⟨_, rfl⟩
                  have hg14 : wz.heap.size ≤ bA := by rw [← hbA]; exact HZ13.out.size
                  rw [hbA] at KA14 ⊢
                  have hne : bA ≠ bB := by have := KB13.out.lt; omega
                  have KB14 := Lib.hid (KB13.out.keep b14)
                  have HZ14 := Lib.hid (below_next HZ13.out b14)
                  have hS : v14_.cell? ⟨w.heap.size, 0, none⟩ = some (.int .i64 5) ∧ v14_.cell? ⟨w.heap.size, 1, none⟩ = some (.slice C nC cC) := ⟨keepBox HZ14.out kz0, keepBox HZ14.out kz1⟩
                  clear h14 hbA
                  clear b14
                  refine hK _ _ (fun _ => hS) ?_
                  clear hK
                  (try simp only [Act.put, List.setIfInBounds_toArray, List.set_cons_zero, List.set_cons_succ])
                  refine oneT (i := 9) (by kernel_rfl) rfl (by rfl) (fun K hK => ?_)
                  have e0 := KA14.out.cell 0
                  have e1 := KA14.out.cell 1
                  have e2 := KA14.out.cell 2
                  have e3 := KA14.out.cell 3
                  have e4 := KA14.out.cell 4
                  have f0 := KA14.out.frozen 0
                  have f1 := KA14.out.frozen 1
                  have f2 := KA14.out.frozen 2
                  have f3 := KA14.out.frozen 3
                  have f4 := KA14.out.frozen 4
                  simp at e0 e1 e2 e3 e4
                  have le := KA14.out.lt
                  have pp := put5 KA14.out KB14.out hne HZ14.out hg14 (.int .i64 2) (.slice hb9 hn9 hc9) (.slice S9 ns9 cs9) (.slice K9 nk9 ck9) (.int .i64 used9)
                  go_simp
                  clear e0 e1 e2 e3 e4 f0 f1 f2 f3 f4 le
                  refine hK _ _ (noT_no (by kernel_rfl)) ?_
                  clear hK
                  (try simp only [Act.put, List.setIfInBounds_toArray, List.set_cons_zero, List.set_cons_succ])
                  obtain ⟨v5, hv5⟩ : ∃ z : World, z = (((((v14_.setCell ⟨bA, 0, none⟩ (.int .i64 2)).setCell ⟨bA, 1, none⟩ (.slice hb9 hn9 hc9)).setCell ⟨bA, 2, none⟩ (.slice S9 ns9 cs9)).setCell ⟨bA, 3, none⟩ (.slice K9 nk9 ck9)).setCell ⟨bA, 4, none⟩ (.int .i64 used9)) := ⟨_, rfl⟩
                  obtain ⟨p1, p2, p3⟩ := pp
                  rw [← hv5] at p1 p2 p3 ⊢
                  have P1 := Lib.hid p1
                  have P2 := Lib.hid p2
                  have P3 := Lib.hid p3
                  clear hv5 p1 p2 p3
                  refine oneT (i := 10) (by kernel_rfl) rfl (by rfl) (fun K hK => ?_)
                  have e0 := P2.out.cell 0
                  have e1 := P2.out.cell 1
                  have f0 := P2.out.frozen 0
                  have f1 := P2.out.frozen 1
                  simp at e0 e1
                  have le := P2.out.lt
                  have pq := put2_ P1.out P2.out hne P3.out hg12
                  go_simp
                  clear e0 e1 f0 f1 le
                  refine hK _ _ (noT_no (by kernel_rfl)) ?_
                  clear hK
                  (try simp only [Act.put, List.setIfInBounds_toArray, List.set_cons_zero, List.set_cons_succ])
                  obtain ⟨v6, hv6⟩ : ∃ z : World, z = ((v5.setCell ⟨bB, 0, none⟩ (.int .i64 0)).setCell ⟨bB, 1, none⟩ (.int .i64 0)) := ⟨_, rfl⟩
                  obtain ⟨p1, p2, p3⟩ := pq
                  rw [← hv6] at p1 p2 p3 ⊢
                  have Q1 := Lib.hid p1
                  have Q2 := Lib.hid p2
                  have Q3 := Lib.hid p3
                  clear hv6 p1 p2 p3 P1 P2 P3
                  refine doneT (by kernel_rfl) ?_ _
                  have c1 := keepBox Q3.out kz1
                  have zc := (cell_lt c1).1
                  have a0 := Q1.out.cell 0
                  have a4 := Q1.out.lt
                  have b0 := Q2.out.cell 0
                  have b4 := Q2.out.lt
                  simp at a0 b0
                  by_cases h40 : (40 : Int) < (nC : Int)
                  all_goals
                    go_wp2_with fail
                    go_ret
                    exact ⟨rfl, below_next HBz.out Q3.out⟩
                · go_simp
                  obtain ⟨v15_, h15⟩ : ∃ z : World, z = v12_.alloc (.cells #[.int .i64 0, .slice none 0 0, .slice none 0 0, .slice none 0 0, .int .i64 0] 46) := ⟨_, rfl⟩
                  have b15 : Below v12_.heap.size v12_ v15_ := by rw [h15]; exact below_new _ _
                  have KA15 : Hid (Blk v15_ v12_.heap.size 46 #[.int .i64 0, .slice none 0 0, .slice none 0 0, .slice none 0 0, .int .i64 0]) := by rw [h15]; exact Blk.new _ _ _
                  rw [← h15]
                  obtain ⟨bA, hbA⟩ : ∃ z : Nat, v12_.heap.size = z := ⟨_, rfl⟩
                  have hg15 : wz.heap.size ≤ bA := by rw [← hbA]; exact HZ12.out.size
                  rw [hbA] at KA15 ⊢
                  have hne : bA ≠ bB := by have := KB12.out.lt; omega
                  have KB15 := Lib.hid (KB12.out.keep b15)
                  have HZ15 := Lib.hid (below_next HZ12.out b15)
                  have hS : v15_.cell? ⟨w.heap.size, 0, none⟩ = some (.int .i64 5) ∧ v15_.cell? ⟨w.heap.size, 1, none⟩ = some (.slice C nC cC) := ⟨keepBox HZ15.out kz0, keepBox HZ15.out kz1⟩
                  clear h15 hbA
                  clear b15
                  refine hK _ _ (fun _ => hS) ?_
                  clear hK
                  (try simp only [Act.put, List.setIfInBounds_toArray, List.set_cons_zero, List.set_cons_succ])
                  refine oneT (i := 3) (by kernel_rfl) rfl (by rfl) (fun K hK => ?_)
                  go_simp
                  have hlw := HZ15.out.size
                  refine (cdcl_any C none nC cC 0 0 xss [] 5 v15_ (HCz.out.grid.keep HZ15.out) HNN.out (fun a ha => Nat.lt_of_lt_of_le (HLL.out a ha) hlw) ⟨Sl_nil v15_, by simp⟩ HBES.out so ro ko po hs1 hs2 hs3 hs4 2000 (Nat.le_refl _) core_none).mono ?_
                  rintro e v16_ ⟨st9, hb9, hn9, hc9, S9, ns9, cs9, K9, nk9, ck9, used9, rfl, b16, ha9⟩
                  obtain rfl : st9 = 2 := answ_par (qs := []) HF.out (by rw [← HX.out]; exact ha9) (.inl ⟨rfl, HRS.out⟩)
                  clear ha9 hlw
                  have KA16 := Lib.hid (KA15.out.keep b16)
                  have KB16 := Lib.hid (KB15.out.keep b16)
                  have HZ16 := Lib.hid (below_next HZ15.out b16)
                  have hS : v16_.cell? ⟨w.heap.size, 0, none⟩ = some (.int .i64 5) ∧ v16_.cell? ⟨w.heap.size, 1, none⟩ = some (.slice C nC cC) := ⟨keepBox HZ16.out kz0, keepBox HZ16.out kz1⟩
                  clear b16
                  refine hK _ _ (fun _ => hS) ?_
                  clear hK
                  (try simp only [Act.put, List.setIfInBounds_toArray, List.set_cons_zero, List.set_cons_succ])
                  refine take0 (i := 4) (oi := _) (v := ?_) rfl (by kernel_rfl) (by kernel_rfl) (by kernel_rfl) (fun _ _ _ h => h) rfl (Or.inl ⟨by rfl, ?_⟩) (fun _ => hS) ?_
                  rotate_left
                  · intro w0; go_simp; with_reducible rfl
                  (try simp only [Act.put, List.setIfInBounds_toArray, List.set_cons_zero, List.set_cons_succ])
                  refine take0 (i := 5) (oi := _) (v := ?_) rfl (by kernel_rfl) (by kernel_rfl) (by kernel_rfl) (fun _ _ _ h => h) rfl (Or.inl ⟨by rfl, ?_⟩) (fun _ => hS) ?_
                  rotate_left
                  · intro w0; go_simp; with_reducible rfl
                  (try simp only [Act.put, List.setIfInBounds_toArray, List.set_cons_zero, List.set_cons_succ])
                  refine take0 (i := 6) (oi := _) (v := ?_) rfl (by kernel_rfl) (by kernel_rfl) (by kernel_rfl) (fun _ _ _ h => h) rfl (Or.inl ⟨by rfl, ?_⟩) (fun _ => hS) ?_
                  rotate_left
                  · intro w0; go_simp; with_reducible rfl
                  (try simp only [Act.put, List.setIfInBounds_toArray, List.set_cons_zero, List.set_cons_succ])
                  refine oneT (i := 9) (by kernel_rfl) rfl (by rfl) (fun K hK => ?_)
                  have e0 := KA16.out.cell 0
                  have e1 := KA16.out.cell 1
                  have e2 := KA16.out.cell 2
                  have e3 := KA16.out.cell 3
                  have e4 := KA16.out.cell 4
                  have f0 := KA16.out.frozen 0
                  have f1 := KA16.out.frozen 1
                  have f2 := KA16.out.frozen 2
                  have f3 := KA16.out.frozen 3
                  have f4 := KA16.out.frozen 4
                  simp at e0 e1 e2 e3 e4
                  have le := KA16.out.lt
                  have pp := put5 KA16.out KB16.out hne HZ16.out hg15 (.int .i64 2) (.slice hb9 hn9 hc9) (.slice S9 ns9 cs9) (.slice K9 nk9 ck9) (.int .i64 used9)
                  go_simp
                  clear e0 e1 e2 e3 e4 f0 f1 f2 f3 f4 le
                  refine hK _ _ (noT_no (by kernel_rfl)) ?_
                  clear hK
                  (try simp only [Act.put, List.setIfInBounds_toArray, List.set_cons_zero, List.set_cons_succ])
                  obtain ⟨v5, hv5⟩ : ∃ z : World, z = (((((v16_.setCell ⟨bA, 0, none⟩ (.int .i64 2)).setCell ⟨bA, 1, none⟩ (.slice hb9 hn9 hc9)).setCell ⟨bA, 2, none⟩ (.slice S9 ns9 cs9)).setCell ⟨bA, 3, none⟩ (.slice K9 nk9 ck9)).setCell ⟨bA, 4, none⟩ (.int .i64 used9)) := ⟨_, rfl⟩
                  obtain ⟨p1, p2, p3⟩ := pp
                  rw [← hv5] at p1 p2 p3 ⊢
                  have P1 := Lib.hid p1
                  have P2 := Lib.hid p2
                  have P3 := Lib.hid p3
                  clear hv5 p1 p2 p3
                  refine oneT (i := 10) (by kernel_rfl) rfl (by rfl) (fun K hK => ?_)
                  have e0 := P2.out.cell 0
                  have e1 := P2.out.cell 1
                  have f0 := P2.out.frozen 0
                  have f1 := P2.out.frozen 1
                  simp at e0 e1
                  have le := P2.out.lt
                  have pq := put2_ P1.out P2.out hne P3.out hg12
                  go_simp
                  clear e0 e1 f0 f1 le
                  refine hK _ _ (noT_no (by kernel_rfl)) ?_
                  clear hK
                  (try simp only [Act.put, List.setIfInBounds_toArray, List.set_cons_zero, List.set_cons_succ])
                  obtain ⟨v6, hv6⟩ : ∃ z : World, z = ((v5.setCell ⟨bB, 0, none⟩ (.int .i64 0)).setCell ⟨bB, 1, none⟩ (.int .i64 0)) := ⟨_, rfl⟩
                  obtain ⟨p1, p2, p3⟩ := pq
                  rw [← hv6] at p1 p2 p3 ⊢
                  have Q1 := Lib.hid p1
                  have Q2 := Lib.hid p2
                  have Q3 := Lib.hid p3
                  clear hv6 p1 p2 p3 P1 P2 P3
                  refine doneT (by kernel_rfl) ?_ _
                  have c1 := keepBox Q3.out kz1
                  have zc := (cell_lt c1).1
                  have a0 := Q1.out.cell 0
                  have a4 := Q1.out.lt
                  have b0 := Q2.out.cell 0
                  have b4 := Q2.out.lt
                  simp at a0 b0
                  by_cases h40 : (40 : Int) < (nC : Int)
                  all_goals
                    go_wp2_with fail
                    go_ret
                    exact ⟨rfl, below_next HBz.out Q3.out⟩
            · go_simp
              obtain ⟨v17_, h17⟩ : ∃ z : World, z = wz.alloc (.cells #[.int .i64 0, .slice none 0 0, .slice none 0 0, .slice none 0 0, .int .i64 0] 46) := ⟨_, rfl⟩
              have b17 : Below wz.heap.size wz v17_ := by rw [h17]; exact below_new _ _
              have KA17 : Hid (Blk v17_ wz.heap.size 46 #[.int .i64 0, .slice none 0 0, .slice none 0 0, .slice none 0 0, .int .i64 0]) := by rw [h17]; exact Blk.new _ _ _
              rw [← h17]
              obtain ⟨bA, hbA⟩ : ∃ z : Nat, wz.heap.size = z := ⟨_, rfl⟩
              have hg17 : wz.heap.size ≤ bA := by rw [← hbA]; exact HZ0.out.size
              rw [hbA] at KA17 ⊢
              have HZ17 := Lib.hid (below_next HZ0.out b17)
              have hS : v17_.cell? ⟨w.heap.size, 0, none⟩ = some (.int .i64 5) ∧ v17_.cell? ⟨w.heap.size, 1, none⟩ = some (.slice C nC cC) := ⟨keepBox HZ17.out kz0, keepBox HZ17.out kz1⟩
              clear h17 hbA
              clear b17
              refine hK _ _ (fun _ => hS) ?_
              clear hK
              (try simp only [Act.put, List.setIfInBounds_toArray, List.set_cons_zero, List.set_cons_succ])
              refine twoT (i := 2) (j := 8) (by kernel_rfl) rfl (by rfl) rfl (by rfl) (fun K hK => ?_) (fun K hK => ?_)
              · go_simp
                refine (optionsOf_any o v17_ HOP.out).mono ?_
                rintro e v18_ ⟨so, ro, ko, po, rfl, hs1, hs2, hs3, hs4, b18⟩
                have KA18 := Lib.hid (KA17.out.keep b18)
                have HZ18 := Lib.hid (below_next HZ17.out b18)
                have hS : v18_.cell? ⟨w.heap.size, 0, none⟩ = some (.int .i64 5) ∧ v18_.cell? ⟨w.heap.size, 1, none⟩ = some (.slice C nC cC) := ⟨keepBox HZ18.out kz0, keepBox HZ18.out kz1⟩
                clear b18
                refine hK _ _ (fun _ => hS) ?_
                clear hK
                (try simp only [Act.put, List.setIfInBounds_toArray, List.set_cons_zero, List.set_cons_succ])
                refine twoT (i := 3) (j := 8) (by kernel_rfl) rfl (by rfl) rfl (by rfl) (fun K hK => ?_) (fun K hK => ?_)
                · go_simp
                  have hlw := HZ18.out.size
                  refine (cdcl_any C none nC cC 0 0 xss [] 5 v18_ (HCz.out.grid.keep HZ18.out) HNN.out (fun a ha => Nat.lt_of_lt_of_le (HLL.out a ha) hlw) ⟨Sl_nil v18_, by simp⟩ HBES.out so ro ko po hs1 hs2 hs3 hs4 2000 (Nat.le_refl _) core_none).mono ?_
                  rintro e v19_ ⟨st9, hb9, hn9, hc9, S9, ns9, cs9, K9, nk9, ck9, used9, rfl, b19, ha9⟩
                  obtain rfl : st9 = 2 := answ_par (qs := []) HF.out (by rw [← HX.out]; exact ha9) (.inl ⟨rfl, HRS.out⟩)
                  clear ha9 hlw
                  have KA19 := Lib.hid (KA18.out.keep b19)
                  have HZ19 := Lib.hid (below_next HZ18.out b19)
                  have hS : v19_.cell? ⟨w.heap.size, 0, none⟩ = some (.int .i64 5) ∧ v19_.cell? ⟨w.heap.size, 1, none⟩ = some (.slice C nC cC) := ⟨keepBox HZ19.out kz0, keepBox HZ19.out kz1⟩
                  clear b19
                  refine hK _ _ (fun _ => hS) ?_
                  clear hK
                  (try simp only [Act.put, List.setIfInBounds_toArray, List.set_cons_zero, List.set_cons_succ])
                  refine take0 (i := 4) (oi := _) (v := ?_) rfl (by kernel_rfl) (by kernel_rfl) (by kernel_rfl) (fun _ _ _ h => h) rfl (Or.inl ⟨by rfl, ?_⟩) (fun _ => hS) ?_
                  rotate_left
                  · intro w0; go_simp; with_reducible rfl
                  (try simp only [Act.put, List.setIfInBounds_toArray, List.set_cons_zero, List.set_cons_succ])
                  refine take0 (i := 5) (oi := _) (v := ?_) rfl (by kernel_rfl) (by kernel_rfl) (by kernel_rfl) (fun _ _ _ h => h) rfl (Or.inl ⟨by rfl, ?_⟩) (fun _ => hS) ?_
                  rotate_left
                  · intro w0; go_simp; with_reducible rfl
                  (try simp only [Act.put, List.setIfInBounds_toArray, List.set_cons_zero, List.set_cons_succ])
                  refine take0 (i := 6) (oi := _) (v := ?_) rfl (by kernel_rfl) (by kernel_rfl) (by kernel_rfl) (fun _ _ _ h => h) rfl (Or.inl ⟨by rfl, ?_⟩) (fun _ => hS) ?_
                  rotate_left
                  · intro w0; go_simp; with_reducible rfl
                  (try simp only [Act.put, List.setIfInBounds_toArray, List.set_cons_zero, List.set_cons_succ])
                  refine oneT (i := 8) (by kernel_rfl) rfl (by rfl) (fun K hK => ?_)
                  go_simp
                  obtain ⟨v20_, h20⟩ : ∃ z : World, z = v19_.alloc (.cells #[.int .i64 0, .int .i64 0] 28) := ⟨_, rfl⟩
                  have b20 : Below v19_.heap.size v19_ v20_ := by rw [h20]; exact below_new _ _
                  have KB20 : Hid (Blk v20_ v19_.heap.size 28 #[.int .i64 0, .int .i64 0]) := by rw [h20]; exact Blk.new _ _ _
                  rw [← h20]
                  obtain ⟨bB, hbB⟩ : ∃ z : Nat, v19_.heap.size = z := ⟨_, rfl⟩
                  have hg20 : wz.heap.size ≤ bB := by rw [← hbB]; exact HZ19.out.size
                  rw [hbB] at KB20 ⊢
                  have hne : bA ≠ bB := by have := KA19.out.lt; omega
                  have KA20 := Lib.hid (KA19.out.keep b20)
                  have HZ20 := Lib.hid (below_next HZ19.out b20)
                  have hS : v20_.cell? ⟨w.heap.size, 0, none⟩ = some (.int .i64 5) ∧ v20_.cell? ⟨w.heap.size, 1, none⟩ = some (.slice C nC cC) := ⟨keepBox HZ20.out kz0, keepBox HZ20.out kz1⟩
                  clear h20 hbB
                  clear b20
                  refine hK _ _ (fun _ => hS) ?_
                  clear hK
                  (try simp only [Act.put, List.setIfInBounds_toArray, List.set_cons_zero, List.set_cons_succ])
                  refine oneT (i := 9) (by kernel_rfl) rfl (by rfl) (fun K hK => ?_)
                  have e0 := KA20.out.cell 0
                  have e1 := KA20.out.cell 1
                  have e2 := KA20.out.cell 2
                  have e3 := KA20.out.cell 3
                  have e4 := KA20.out.cell 4
                  have f0 := KA20.out.frozen 0
                  have f1 := KA20.out.frozen 1
                  have f2 := KA20.out.frozen 2
                  have f3 := KA20.out.frozen 3
                  have f4 := KA20.out.frozen 4
                  simp at e0 e1 e2 e3 e4
                  have le := KA20.out.lt
                  have pp := put5 KA20.out KB20.out hne HZ20.out hg17 (.int .i64 2) (.slice hb9 hn9 hc9) (.slice S9 ns9 cs9) (.slice K9 nk9 ck9) (.int .i64 used9)
                  go_simp
                  clear e0 e1 e2 e3 e4 f0 f1 f2 f3 f4 le
                  refine hK _ _ (noT_no (by kernel_rfl)) ?_
                  clear hK
                  (try simp only [Act.put, List.setIfInBounds_toArray, List.set_cons_zero, List.set_cons_succ])
                  obtain ⟨v5, hv5⟩ : ∃ z : World, z = (((((v20_.setCell ⟨bA, 0, none⟩ (.int .i64 2)).setCell ⟨bA, 1, none⟩ (.slice hb9 hn9 hc9)).setCell ⟨bA, 2, none⟩ (.slice S9 ns9 cs9)).setCell ⟨bA, 3, none⟩ (.slice K9 nk9 ck9)).setCell ⟨bA, 4, none⟩ (.int .i64 used9)) := ⟨_, rfl⟩
                  obtain ⟨p1, p2, p3⟩ := pp
                  rw [← hv5] at p1 p2 p3 ⊢
                  have P1 := Lib.hid p1
                  have P2 := Lib.hid p2
                  have P3 := Lib.hid p3
                  clear hv5 p1 p2 p3
                  refine oneT (i := 10) (by kernel_rfl) rfl (by rfl) (fun K hK => ?_)
                  have e0 := P2.out.cell 0
                  have e1 := P2.out.cell 1
                  have f0 := P2.out.frozen 0
                  have f1 := P2.out.frozen 1
                  simp at e0 e1
                  have le := P2.out.lt
                  have pq := put2_ P1.out P2.out hne P3.out hg20
                  go_simp
                  clear e0 e1 f0 f1 le
                  refine hK _ _ (noT_no (by kernel_rfl)) ?_
                  clear hK
                  (try simp only [Act.put, List.setIfInBounds_toArray, List.set_cons_zero, List.set_cons_succ])
                  obtain ⟨v6, hv6⟩ : ∃ z : World, z = ((v5.setCell ⟨bB, 0, none⟩ (.int .i64 0)).setCell ⟨bB, 1, none⟩ (.int .i64 0)) := ⟨_, rfl⟩
                  obtain ⟨p1, p2, p3⟩ := pq
                  rw [← hv6] at p1 p2 p3 ⊢
                  have Q1 := Lib.hid p1
                  have Q2 := Lib.hid p2
                  have Q3 := Lib.hid p3
                  clear hv6 p1 p2 p3 P1 P2 P3
                  refine doneT (by kernel_rfl) ?_ _
                  have c1 := keepBox Q3.out kz1
                  have zc := (cell_lt c1).1
                  have a0 := Q1.out.cell 0
                  have a4 := Q1.out.lt
                  have b0 := Q2.out.cell 0
                  have b4 := Q2.out.lt
                  simp at a0 b0
                  by_cases h40 : (40 : Int) < (nC : Int)
                  all_goals
                    go_wp2_with fail
                    go_ret
                    exact ⟨rfl, below_next HBz.out Q3.out⟩
                · go_simp
                  obtain ⟨v21_, h21⟩ : ∃ z : World, z = v18_.alloc (.cells #[.int .i64 0, .int .i64 0] 28) := ⟨_, rfl⟩
                  have b21 : Below v18_.heap.size v18_ v21_ := by rw [h21]; exact below_new _ _
                  have KB21 : Hid (Blk v21_ v18_.heap.size 28 #[.int .i64 0, .int .i64 0]) := by rw [h21]; exact Blk.new _ _ _
                  rw [← h21]
                  obtain ⟨bB, hbB⟩ : ∃ z : Nat, v18_.heap.size = z := ⟨_, rfl⟩
                  have hg21 : wz.heap.size ≤ bB := by rw [← hbB]; exact HZ18.out.size
                  rw [hbB] at KB21 ⊢
                  have hne : bA ≠ bB := by have := KA18.out.lt; omega
                  have KA21 := Lib.hid (KA18.out.keep b21)
                  have HZ21 := Lib.hid (below_next HZ18.out b21)
                  have hS : v21_.cell? ⟨w.heap.size, 0, none⟩ = some (.int .i64 5) ∧ v21_.cell? ⟨w.heap.size, 1, none⟩ = some (.slice C nC cC) := ⟨keepBox HZ21.out kz0, keepBox HZ21.out kz1⟩
                  clear h21 hbB
                  clear b21
                  refine hK _ _ (fun _ => hS) ?_
                  clear hK
                  (try simp only [Act.put, List.setIfInBounds_toArray, List.set_cons_zero, List.set_cons_succ])
                  refine oneT (i := 3) (by kernel_rfl) rfl (by rfl) (fun K hK => ?_)
                  go_simp
                  have hlw := HZ21.out.size
                  refine (cdcl_any C none nC cC 0 0 xss [] 5 v21_ (HCz.out.grid.keep HZ21.out) HNN.out (fun a ha => Nat.lt_of_lt_of_le (HLL.out a ha) hlw) ⟨Sl_nil v21_, by simp⟩ HBES.out so ro ko po hs1 hs2 hs3 hs4 2000 (Nat.le_refl _) core_none).mono ?_
                  rintro e v22_ ⟨st9, hb9, hn9, hc9, S9, ns9, cs9, K9, nk9, ck9, used9, rfl, b22, ha9⟩
                  obtain rfl : st9 = 2 := answ_par (qs := []) HF.out (by rw [← HX.out]; exact ha9) (.inl ⟨rfl, HRS.out⟩)
                  clear ha9 hlw
                  have KA22 := Lib.hid (KA21.out.keep b22)
                  have KB22 := Lib.hid (KB21.out.keep b22)
                  have HZ22 := Lib.hid (below_next HZ21.out b22)
                  have hS : v22_.cell? ⟨w.heap.size, 0, none⟩ = some (.int .i64 5) ∧ v22_.cell? ⟨w.heap.size, 1, none⟩ = some (.slice C nC cC) := ⟨keepBox HZ22.out kz0, keepBox HZ22.out kz1⟩
                  clear b22
                  refine hK _ _ (fun _ => hS) ?_
                  clear hK
                  (try simp only [Act.put, List.setIfInBounds_toArray, List.set_cons_zero, List.set_cons_succ])
                  refine take0 (i := 4) (oi := _) (v := ?_) rfl (by kernel_rfl) (by kernel_rfl) (by kernel_rfl) (fun _ _ _ h => h) rfl (Or.inl ⟨by rfl, ?_⟩) (fun _ => hS) ?_
                  rotate_left
                  · intro w0; go_simp; with_reducible rfl
                  (try simp only [Act.put, List.setIfInBounds_toArray, List.set_cons_zero, List.set_cons_succ])
                  refine take0 (i := 5) (oi := _) (v := ?_) rfl (by kernel_rfl) (by kernel_rfl) (by kernel_rfl) (fun _ _ _ h => h) rfl (Or.inl ⟨by rfl, ?_⟩) (fun _ => hS) ?_
                  rotate_left
                  · intro w0; go_simp; with_reducible rfl
                  (try simp only [Act.put, List.setIfInBounds_toArray, List.set_cons_zero, List.set_cons_succ])
                  refine take0 (i := 6) (oi := _) (v := ?_) rfl (by kernel_rfl) (by kernel_rfl) (by kernel_rfl) (fun _ _ _ h => h) rfl (Or.inl ⟨by rfl, ?_⟩) (fun _ => hS) ?_
                  rotate_left
                  · intro w0; go_simp; with_reducible rfl
                  (try simp only [Act.put, List.setIfInBounds_toArray, List.set_cons_zero, List.set_cons_succ])
                  refine oneT (i := 9) (by kernel_rfl) rfl (by rfl) (fun K hK => ?_)
                  have e0 := KA22.out.cell 0
                  have e1 := KA22.out.cell 1
                  have e2 := KA22.out.cell 2
                  have e3 := KA22.out.cell 3
                  have e4 := KA22.out.cell 4
                  have f0 := KA22.out.frozen 0
                  have f1 := KA22.out.frozen 1
                  have f2 := KA22.out.frozen 2
                  have f3 := KA22.out.frozen 3
                  have f4 := KA22.out.frozen 4
                  simp at e0 e1 e2 e3 e4
                  have le := KA22.out.lt
                  have pp := put5 KA22.out KB22.out hne HZ22.out hg17 (.int .i64 2) (.slice hb9 hn9 hc9) (.slice S9 ns9 cs9) (.slice K9 nk9 ck9) (.int .i64 used9)
                  go_simp
                  clear e0 e1 e2 e3 e4 f0 f1 f2 f3 f4 le
                  refine hK _ _ (noT_no (by kernel_rfl)) ?_
                  clear hK
                  (try simp only [Act.put, List.setIfInBounds_toArray, List.set_cons_zero, List.set_cons_succ])
                  obtain ⟨v5, hv5⟩ : ∃ z : World, z = (((((v22_.setCell ⟨bA, 0, none⟩ (.int .i64 2)).setCell ⟨bA, 1, none⟩ (.slice hb9 hn9 hc9)).setCell ⟨bA, 2, none⟩ (.slice S9 ns9 cs9)).setCell ⟨bA, 3, none⟩ (.slice K9 nk9 ck9)).setCell ⟨bA, 4, none⟩ (.int .i64 used9)) := ⟨_, rfl⟩
                  obtain ⟨p1, p2, p3⟩ := pp
                  rw [← hv5] at p1 p2 p3 ⊢
                  have P1 := Lib.hid p1
                  have P2 := Lib.hid p2
                  have P3 := Lib.hid p3
                  clear hv5 p1 p2 p3
                  refine oneT (i := 10) (by kernel_rfl) rfl (by rfl) (fun K hK => ?_)
                  have e0 := P2.out.cell 0
                  have e1 := P2.out.cell 1
                  have f0 := P2.out.frozen 0
                  have f1 := P2.out.frozen 1
                  simp at e0 e1
                  have le := P2.out.lt
                  have pq := put2_ P1.out P2.out hne P3.out hg21
                  go_simp
                  clear e0 e1 f0 f1 le
                  refine hK _ _ (noT_no (by kernel_rfl)) ?_
                  clear hK
                  (try simp only [Act.put, List.setIfInBounds_toArray, List.set_cons_zero, List.set_cons_succ])
                  obtain ⟨v6, hv6⟩ : ∃ z : World, z = ((v5.setCell ⟨bB, 0, none⟩ (.int .i64 0)).setCell ⟨bB, 1, none⟩ (.int .i64 0)) := ⟨_, rfl⟩
                  obtain ⟨p1, p2, p3⟩ := pq
                  rw [← hv6] at p1 p2 p3 ⊢
                  have Q1 := Lib.hid p1
                  have Q2 := Lib.hid p2
                  have Q3 := Lib.hid p3
                  clear hv6 p1 p2 p3 P1 P2 P3
                  refine doneT (by kernel_rfl) ?_ _
                  have c1 := keepBox Q3.out kz1
                  have zc := (cell_lt c1).1
                  have a0 := Q1.out.cell 0
                  have a4 := Q1.out.lt
                  have b0 := Q2.out.cell 0
                  have b4 := Q2.out.lt
                  simp at a0 b0
                  by_cases h40 : (40 : Int) < (nC : Int)
                  all_goals
                    go_wp2_with fail
                    go_ret
                    exact ⟨rfl, below_next HBz.out Q3.out⟩
              · go_simp
                obtain ⟨v23_, h23⟩ : ∃ z : World, z = v17_.alloc (.cells #[.int .i64 0, .int .i64 0] 28) := ⟨_, rfl⟩
                have b23 : Below v17_.heap.size v17_ v23_ := by rw [h23]; exact below_new _ _
                have KB23 : Hid (Blk v23_ v17_.heap.size 28 #[.int .i64 0, .int .i64 0]) := by rw [h23]; exact Blk.new _ _ _
                rw [← h23]
                obtain ⟨bB, hbB⟩ : ∃ z : Nat, v17_.heap.size = z := ⟨_, rfl⟩
                have hg23 : wz.heap.size ≤ bB := by rw [← hbB]; exact HZ17.out.size
                rw [hbB] at KB23 ⊢
                have hne : bA ≠ bB := by have := KA17.out.lt; omega
                have KA23 := Lib.hid (KA17.out.keep b23)
                have HZ23 := Lib.hid (below_next HZ17.out b23)
                have hS : v23_.cell? ⟨w.heap.size, 0, none⟩ = some (.int .i64 5) ∧ v23_.cell? ⟨w.heap.size, 1, none⟩ = some (.slice C nC cC) := ⟨keepBox HZ23.out kz0, keepBox HZ23.out kz1⟩
                clear h23 hbB
                clear b23
                refine hK _ _ (fun _ => hS) ?_
                clear hK
                (try simp only [Act.put, List.setIfInBounds_toArray, List.set_cons_zero, List.set_cons_succ])
                refine oneT (i := 2) (by kernel_rfl) rfl (by rfl) (fun K hK => ?_)
                go_simp
                refine (optionsOf_any o v23_ HOP.out).mono ?_
                rintro e v24_ ⟨so, ro, ko, po, rfl, hs1, hs2, hs3, hs4, b24⟩
                have KA24 := Lib.hid (KA23.out.keep b24)
                have KB24 := Lib.hid (KB23.out.keep b24)
                have HZ24 := Lib.hid (below_next HZ23.out b24)
                have hS : v24_.cell? ⟨w.heap.size, 0, none⟩ = some (.int .i64 5) ∧ v24_.cell? ⟨w.heap.size, 1, none⟩ = some (.slice C nC cC) := ⟨keepBox HZ24.out kz0, keepBox HZ24.out kz1⟩
                clear b24
                refine hK _ _ (fun _ => hS) ?_
                clear hK
                (try simp only [Act.put, List.setIfInBounds_toArray, List.set_cons_zero, List.set_cons_succ])
                refine oneT (i := 3) (by kernel_rfl) rfl (by rfl) (fun K hK => ?_)
                go_simp
                have hlw := HZ24.out.size
                refine (cdcl_any C none nC cC 0 0 xss [] 5 v24_ (HCz.out.grid.keep HZ24.out) HNN.out (fun a ha => Nat.lt_of_lt_of_le (HLL.out a ha) hlw) ⟨Sl_nil v24_, by simp⟩ HBES.out so ro ko po hs1 hs2 hs3 hs4 2000 (Nat.le_refl _) core_none).mono ?_
                rintro e v25_ ⟨st9, hb9, hn9, hc9, S9, ns9, cs9, K9, nk9, ck9, used9, rfl, b25, ha9⟩
                obtain rfl : st9 = 2 := answ_par (qs := []) HF.out (by rw [← HX.out]; exact ha9) (.inl ⟨rfl, HRS.out⟩)
                clear ha9 hlw
                have KA25 := Lib.hid (KA24.out.keep b25)
                have KB25 := Lib.hid (KB24.out.keep b25)
                have HZ25 := Lib.hid (below_next HZ24.out b25)
                have hS : v25_.cell? ⟨w.heap.size, 0, none⟩ = some (.int .i64 5) ∧ v25_.cell? ⟨w.heap.size, 1, none⟩ = some (.slice C nC cC) := ⟨keepBox HZ25.out kz0, keepBox HZ25.out kz1⟩
                clear b25
                refine hK _ _ (fun _ => hS) ?_
                clear hK
                (try simp only [Act.put, List.setIfInBounds_toArray, List.set_cons_zero, List.set_cons_succ])
                refine take0 (i := 4) (oi := _) (v := ?_) rfl (by kernel_rfl) (by kernel_rfl) (by kernel_rfl) (fun _ _ _ h => h) rfl (Or.inl ⟨by rfl, ?_⟩) (fun _ => hS) ?_
                rotate_left
                · intro w0; go_simp; with_reducible rfl
                (try simp only [Act.put, List.setIfInBounds_toArray, List.set_cons_zero, List.set_cons_succ])
                refine take0 (i := 5) (oi := _) (v := ?_) rfl (by kernel_rfl) (by kernel_rfl) (by kernel_rfl) (fun _ _ _ h => h) rfl (Or.inl ⟨by rfl, ?_⟩) (fun _ => hS) ?_
                rotate_left
                · intro w0; go_simp; with_reducible rfl
                (try simp only [Act.put, List.setIfInBounds_toArray, List.set_cons_zero, List.set_cons_succ])
                refine take0 (i := 6) (oi := _) (v := ?_) rfl (by kernel_rfl) (by kernel_rfl) (by kernel_rfl) (fun _ _ _ h => h) rfl (Or.inl ⟨by rfl, ?_⟩) (fun _ => hS) ?_
                rotate_left
                · intro w0; go_simp; with_reducible rfl
                (try simp only [Act.put, List.setIfInBounds_toArray, List.set_cons_zero, List.set_cons_succ])
                refine oneT (i := 9) (by kernel_rfl) rfl (by rfl) (fun K hK => ?_)
                have e0 := KA25.out.cell 0
                have e1 := KA25.out.cell 1
                have e2 := KA25.out.cell 2
                have e3 := KA25.out.cell 3
                have e4 := KA25.out.cell 4
                have f0 := KA25.out.frozen 0
                have f1 := KA25.out.frozen 1
                have f2 := KA25.out.frozen 2
                have f3 := KA25.out.frozen 3
                have f4 := KA25.out.frozen 4
                simp at e0 e1 e2 e3 e4
                have le := KA25.out.lt
                have pp := put5 KA25.out KB25.out hne HZ25.out hg17 (.int .i64 2) (.slice hb9 hn9 hc9) (.slice S9 ns9 cs9) (.slice K9 nk9 ck9) (.int .i64 used9)
                go_simp
                clear e0 e1 e2 e3 e4 f0 f1 f2 f3 f4 le
                refine hK _ _ (noT_no (by kernel_rfl)) ?_
                clear hK
                (try simp only [Act.put, List.setIfInBounds_toArray, List.set_cons_zero, List.set_cons_succ])
                obtain ⟨v5, hv5⟩ : ∃ z : World, z = (((((v25_.setCell ⟨bA, 0, none⟩ (.int .i64 2)).setCell ⟨bA, 1, none⟩ (.slice hb9 hn9 hc9)).setCell ⟨bA, 2, none⟩ (.slice S9 ns9 cs9)).setCell ⟨bA, 3, none⟩ (.slice K9 nk9 ck9)).setCell ⟨bA, 4, none⟩ (.int .i64 used9)) := ⟨_, rfl⟩
                obtain ⟨p1, p2, p3⟩ := pp
                rw [← hv5] at p1 p2 p3 ⊢
                have P1 := Lib.hid p1
                have P2 := Lib.hid p2
                have P3 := Lib.hid p3
                clear hv5 p1 p2 p3
                refine oneT (i := 10) (by kernel_rfl) rfl (by rfl) (fun K hK => ?_)
                have e0 := P2.out.cell 0
                have e1 := P2.out.cell 1
                have f0 := P2.out.frozen 0
                have f1 := P2.out.frozen 1
                simp at e0 e1
                have le := P2.out.lt
                have pq := put2_ P1.out P2.out hne P3.out hg23
                go_simp
                clear e0 e1 f0 f1 le
                refine hK _ _ (noT_no (by kernel_rfl)) ?_
                clear hK
                (try simp only [Act.put, List.setIfInBounds_toArray, List.set_cons_zero, List.set_cons_succ])
                obtain ⟨v6, hv6⟩ : ∃ z : World, z = ((v5.setCell ⟨bB, 0, none⟩ (.int .i64 0)).setCell ⟨bB, 1, none⟩ (.int .i64 0)) := ⟨_, rfl⟩
                obtain ⟨p1, p2, p3⟩ := pq
                rw [← hv6] at p1 p2 p3 ⊢
                have Q1 := Lib.hid p1
                have Q2 := Lib.hid p2
                have Q3 := Lib.hid p3
                clear hv6 p1 p2 p3 P1 P2 P3
                refine doneT (by kernel_rfl) ?_ _
                have c1 := keepBox Q3.out kz1
                have zc := (cell_lt c1).1
                have a0 := Q1.out.cell 0
                have a4 := Q1.out.lt
                have b0 := Q2.out.cell 0
                have b4 := Q2.out.lt
                simp at a0 b0
                by_cases h40 : (40 : Int) < (nC : Int)
                all_goals
                  go_wp2_with fail
                  go_ret
                  exact ⟨rfl, below_next HBz.out Q3.out⟩
            · go_simp
              obtain ⟨v26_, h26⟩ : ∃ z : World, z = wz.alloc (.cells #[.int .i64 0, .int .i64 0] 28) := ⟨_, rfl⟩
              have b26 : Below wz.heap.size wz v26_ := by rw [h26]; exact below_new _ _
              have KB26 : Hid (Blk v26_ wz.heap.size 28 #[.int .i64 0, .int .i64 0]) := by rw [h26]; exact Blk.new _ _ _
              rw [← h26]
              obtain ⟨bB, hbB⟩ : ∃ z : Nat, wz.heap.size = z := ⟨_, rfl⟩
              have hg26 : wz.heap.size ≤ bB := by rw [← hbB]; exact HZ0.out.size
              rw [hbB] at KB26 ⊢
              have HZ26 := Lib.hid (below_next HZ0.out b26)
              have hS : v26_.cell? ⟨w.heap.size, 0, none⟩ = some (.int .i64 5) ∧ v26_.cell? ⟨w.heap.size, 1, none⟩ = some (.slice C nC cC) := ⟨keepBox HZ26.out kz0, keepBox HZ26.out kz1⟩
              clear h26 hbB
              clear b26
              refine hK _ _ (fun _ => hS) ?_
              clear hK
              (try simp only [Act.put, List.setIfInBounds_toArray, List.set_cons_zero, List.set_cons_succ])
              refine twoT (i := 2) (j := 7) (by kernel_rfl) rfl (by rfl) rfl (by rfl) (fun K hK => ?_) (fun K hK => ?_)
              · go_simp
                refine (optionsOf_any o v26_ HOP.out).mono ?_
                rintro e v27_ ⟨so, ro, ko, po, rfl, hs1, hs2, hs3, hs4, b27⟩
                have KB27 := Lib.hid (KB26.out.keep b27)
                have HZ27 := Lib.hid (below_next HZ26.out b27)
                have hS : v27_.cell? ⟨w.heap.size, 0, none⟩ = some (.int .i64 5) ∧ v27_.cell? ⟨w.heap.size, 1, none⟩ = some (.slice C nC cC) := ⟨keepBox HZ27.out kz0, keepBox HZ27.out kz1⟩
                clear b27
                refine hK _ _ (fun _ => hS) ?_
                clear hK
                (try simp only [Act.put, List.setIfInBounds_toArray, List.set_cons_zero, List.set_cons_succ])
                refine twoT (i := 3) (j := 7) (by kernel_rfl) rfl (by rfl) rfl (by rfl) (fun K hK => ?_) (fun K hK => ?_)
                · go_simp
                  have hlw := HZ27.out.size
                  refine (cdcl_any C none nC cC 0 0 xss [] 5 v27_ (HCz.out.grid.keep HZ27.out) HNN.out (fun a ha => Nat.lt_of_lt_of_le (HLL.out a ha) hlw) ⟨Sl_nil v27_, by simp⟩ HBES.out so ro ko po hs1 hs2 hs3 hs4 2000 (Nat.le_refl _) core_none).mono ?_
                  rintro e v28_ ⟨st9, hb9, hn9, hc9, S9, ns9, cs9, K9, nk9, ck9, used9, rfl, b28, ha9⟩
                  obtain rfl : st9 = 2 := answ_par (qs := []) HF.out (by rw [← HX.out]; exact ha9) (.inl ⟨rfl, HRS.out⟩)
                  clear ha9 hlw
                  have KB28 := Lib.hid (KB27.out.keep b28)
                  have HZ28 := Lib.hid (below_next HZ27.out b28)
                  have hS : v28_.cell? ⟨w.heap.size, 0, none⟩ = some (.int .i64 5) ∧ v28_.cell? ⟨w.heap.size, 1, none⟩ = some (.slice C nC cC) := ⟨keepBox HZ28.out kz0, keepBox HZ28.out kz1⟩
                  clear b28
                  refine hK _ _ (fun _ => hS) ?_
                  clear hK
                  (try simp only [Act.put, List.setIfInBounds_toArray, List.set_cons_zero, List.set_cons_succ])
                  refine take0 (i := 4) (oi := _) (v := ?_) rfl (by kernel_rfl) (by kernel_rfl) (by kernel_rfl) (fun _ _ _ h => h) rfl (Or.inl ⟨by rfl, ?_⟩) (fun _ => hS) ?_
                  rotate_left
                  · intro w0; go_simp; with_reducible rfl
                  (try simp only [Act.put, List.setIfInBounds_toArray, List.set_cons_zero, List.set_cons_succ])
                  refine take0 (i := 5) (oi := _) (v := ?_) rfl (by kernel_rfl) (by kernel_rfl) (by kernel_rfl) (fun _ _ _ h => h) rfl (Or.inl ⟨by rfl, ?_⟩) (fun _ => hS) ?_
                  rotate_left
                  · intro w0; go_simp; with_reducible rfl
                  (try simp only [Act.put, List.setIfInBounds_toArray, List.set_cons_zero, List.set_cons_succ])
                  refine take0 (i := 6) (oi := _) (v := ?_) rfl (by kernel_rfl) (by kernel_rfl) (by kernel_rfl) (fun _ _ _ h => h) rfl (Or.inl ⟨by rfl, ?_⟩) (fun _ => hS) ?_
                  rotate_left
                  · intro w0; go_simp; with_reducible rfl
                  (try simp only [Act.put, List.setIfInBounds_toArray, List.set_cons_zero, List.set_cons_succ])
                  refine oneT (i := 7) (by kernel_rfl) rfl (by rfl) (fun K hK => ?_)
                  go_simp
                  obtain ⟨v29_, h29⟩ : ∃ z : World, z = v28_.alloc (.cells #[.int .i64 0, .slice none 0 0, .slice none 0 0, .slice none 0 0, .int .i64 0] 46) := ⟨_, rfl⟩
                  have b29 : Below v28_.heap.size v28_ v29_ := by rw [h29]; exact below_new _ _
                  have KA29 : Hid (Blk v29_ v28_.heap.size 46 #[.int .i64 0, .slice none 0 0, .slice none 0 0, .slice none 0 0, .int .i64 0]) := by rw [h29]; exact Blk.new _ _ _
                  rw [← h29]
                  obtain ⟨bA, hbA⟩ : ∃ z : Nat, v28_.heap.size = z := ⟨_, rfl⟩
                  have hg29 : wz.heap.size ≤ bA := by rw [← hbA]; exact HZ28.out.size
                  rw [hbA] at KA29 ⊢
                  have hne : bA ≠ bB := by have := KB28.out.lt; omega
                  have KB29 := Lib.hid (KB28.out.keep b29)
                  have HZ29 := Lib.hid (below_next HZ28.out b29)
                  have hS : v29_.cell? ⟨w.heap.size, 0, none⟩ = some (.int .i64 5) ∧ v29_.cell? ⟨w.heap.size, 1, none⟩ = some (.slice C nC cC) := ⟨keepBox HZ29.out kz0, keepBox HZ29.out kz1⟩
                  clear h29 hbA
                  clear b29
                  refine hK _ _ (fun _ => hS) ?_
                  clear hK
                  (try simp only [Act.put, List.setIfInBounds_toArray, List.set_cons_zero, List.set_cons_succ])
                  refine oneT (i := 9) (by kernel_rfl) rfl (by rfl) (fun K hK => ?_)
                  have e0 := KA29.out.cell 0
                  have e1 := KA29.out.cell 1
                  have e2 := KA29.out.cell 2
                  have e3 := KA29.out.cell 3
                  have e4 := KA29.out.cell 4
                  have f0 := KA29.out.frozen 0
                  have f1 := KA29.out.frozen 1
                  have f2 := KA29.out.frozen 2
                  have f3 := KA29.out.frozen 3
                  have f4 := KA29.out.frozen 4
                  simp at e0 e1 e2 e3 e4
                  have le := KA29.out.lt
                  have pp := put5 KA29.out KB29.out hne HZ29.out hg29 (.int .i64 2) (.slice hb9 hn9 hc9) (.slice S9 ns9 cs9) (.slice K9 nk9 ck9) (.int .i64 used9)
                  go_simp
                  clear e0 e1 e2 e3 e4 f0 f1 f2 f3 f4 le
                  refine hK _ _ (noT_no (by kernel_rfl)) ?_
                  clear hK
                  (try simp only [Act.put, List.setIfInBounds_toArray, List.set_cons_zero, List.set_cons_succ])
                  obtain ⟨v5, hv5⟩ : ∃ z : World, z = (((((v29_.setCell ⟨bA, 0, none⟩ (.int .i64 2)).setCell ⟨bA, 1, none⟩ (.slice hb9 hn9 hc9)).setCell ⟨bA, 2, none⟩ (.slice S9 ns9 cs9)).setCell ⟨bA, 3, none⟩ (.slice K9 nk9 ck9)).setCell ⟨bA, 4, none⟩ (.int .i64 used9)) := ⟨_, rfl⟩
                  obtain ⟨p1, p2, p3⟩ := pp
                  rw [← hv5] at p1 p2 p3 ⊢
                  have P1 := Lib.hid p1
                  have P2 := Lib.hid p2
                  have P3 := Lib.hid p3
                  clear hv5 p1 p2 p3
                  refine oneT (i := 10) (by kernel_rfl) rfl (by rfl) (fun K hK => ?_)
                  have e0 := P2.out.cell 0
                  have e1 := P2.out.cell 1
                  have f0 := P2.out.frozen 0
                  have f1 := P2.out.frozen 1
                  simp at e0 e1
                  have le := P2.out.lt
                  have pq := put2_ P1.out P2.out hne P3.out hg26
                  go_simp
                  clear e0 e1 f0 f1 le
                  refine hK _ _ (noT_no (by kernel_rfl)) ?_
                  clear hK
                  (try simp only [Act.put, List.setIfInBounds_toArray, List.set_cons_zero, List.set_cons_succ])
                  obtain ⟨v6, hv6⟩ : ∃ z : World, z = ((v5.setCell ⟨bB, 0, none⟩ (.int .i64 0)).setCell ⟨bB, 1, none⟩ (.int .i64 0)) := ⟨_, rfl⟩
                  obtain ⟨p1, p2, p3⟩ := pq
                  rw [← hv6] at p1 p2 p3 ⊢
                  have Q1 := Lib.hid p1
                  have Q2 := Lib.hid p2
                  have Q3 := Lib.hid p3
                  clear hv6 p1 p2 p3 P1 P2 P3
                  refine doneT (by kernel_rfl) ?_ _
                  have c1 := keepBox Q3.out kz1
                  have zc := (cell_lt c1).1
                  have a0 := Q1.out.cell 0
                  have a4 := Q1.out.lt
                  have b0 := Q2.out.cell 0
                  have b4 := Q2.out.lt
                  simp at a0 b0
                  by_cases h40 : (40 : Int) < (nC : Int)
                  all_goals
                    go_wp2_with fail
                    go_ret
                    exact ⟨rfl, below_next HBz.out Q3.out⟩
                · go_simp
                  obtain ⟨v30_, h30⟩ : ∃ z : World, z = v27_.alloc (.cells #[.int .i64 0, .slice none 0 0, .slice none 0 0, .slice none 0 0, .int .i64 0] 46) := ⟨_, rfl⟩
                  have b30 : Below v27_.heap.size v27_ v30_ := by rw [h30]; exact below_new _ _
                  have KA30 : Hid (Blk v30_ v27_.heap.size 46 #[.int .i64 0, .slice none 0 0, .slice none 0 0, .slice none 0 0, .int .i64 0]) := by rw [h30]; exact Blk.new _ _ _
                  rw [← h30]
                  obtain ⟨bA, hbA⟩ : ∃ z : Nat, v27_.heap.size = z := ⟨_, rfl⟩
                  have hg30 : wz.heap.size ≤ bA := by rw [← hbA]; exact HZ27.out.size
                  rw [hbA] at KA30 ⊢
                  have hne : bA ≠ bB := by have := KB27.out.lt; omega
                  have KB30 := Lib.hid (KB27.out.keep b30)
                  have HZ30 := Lib.hid (below_next HZ27.out b30)
                  have hS : v30_.cell? ⟨w.heap.size, 0, none⟩ = some (.int .i64 5) ∧ v30_.cell? ⟨w.heap.size, 1, none⟩ = some (.slice C nC cC) := ⟨keepBox HZ30.out kz0, keepBox HZ30.out kz1⟩
                  clear h30 hbA
                  clear b30
                  refine hK _ _ (fun _ => hS) ?_
                  clear hK
                  (try simp only [Act.put, List.setIfInBounds_toArray, List.set_cons_zero, List.set_cons_succ])
                  refine oneT (i := 3) (by kernel_rfl) rfl (by rfl) (fun K hK => ?_)
                  go_simp
                  have hlw := HZ30.out.size
                  refine (cdcl_any C none nC cC 0 0 xss [] 5 v30_ (HCz.out.grid.keep HZ30.out) HNN.out (fun a ha => Nat.lt_of_lt_of_le (HLL.out a ha) hlw) ⟨Sl_nil v30_, by simp⟩ HBES.out so ro ko po hs1 hs2 hs3 hs4 2000 (Nat.le_refl _) core_none).mono ?_
                  rintro e v31_ ⟨st9, hb9, hn9, hc9, S9, ns9, cs9, K9, nk9, ck9, used9, rfl, b31, ha9⟩
                  obtain rfl : st9 = 2 := answ_par (qs := []) HF.out (by rw [← HX.out]; exact ha9) (.inl ⟨rfl, HRS.out⟩)
                  clear ha9 hlw
                  have KA31 := Lib.hid (KA30.out.keep b31)
                  have KB31 := Lib.hid (KB30.out.keep b31)
                  have HZ31 := Lib.hid (below_next HZ30.out b31)
                  have hS : v31_.cell? ⟨w.heap.size, 0, none⟩ = some (.int .i64 5) ∧ v31_.cell? ⟨w.heap.size, 1, none⟩ = some (.slice C nC cC) := ⟨keepBox HZ31.out kz0, keepBox HZ31.out kz1⟩
                  clear b31
                  refine hK _ _ (fun _ => hS) ?_
                  clear hK
                  (try simp only [Act.put, List.setIfInBounds_toArray, List.set_cons_zero, List.set_cons_succ])
                  refine take0 (i := 4) (oi := _) (v := ?_) rfl (by kernel_rfl) (by kernel_rfl) (by kernel_rfl) (fun _ _ _ h => h) rfl (Or.inl ⟨by rfl, ?_⟩) (fun _ => hS) ?_
                  rotate_left
                  · intro w0; go_simp; with_reducible rfl
                  (try simp only [Act.put, List.setIfInBounds_toArray, List.set_cons_zero, List.set_cons_succ])
                  refine take0 (i := 5) (oi := _) (v := ?_) rfl (by kernel_rfl) (by kernel_rfl) (by kernel_rfl) (fun _ _ _ h => h) rfl (Or.inl ⟨by rfl, ?_⟩) (fun _ => hS) ?_
                  rotate_left
                  · intro w0; go_simp; with_reducible rfl
                  (try simp only [Act.put, List.setIfInBounds_toArray, List.set_cons_zero, List.set_cons_succ])
                  refine take0 (i := 6) (oi := _) (v := ?_) rfl (by kernel_rfl) (by kernel_rfl) (by kernel_rfl) (fun _ _ _ h => h) rfl (Or.inl ⟨by rfl, ?_⟩) (fun _ => hS) ?_
                  rotate_left
                  · intro w0; go_simp; with_reducible rfl
                  (try simp only [Act.put, List.setIfInBounds_toArray, List.set_cons_zero, List.set_cons_succ])
                  refine oneT (i := 9) (by kernel_rfl) rfl (by rfl) (fun K hK => ?_)
                  have e0 := KA31.out.cell 0
                  have e1 := KA31.out.cell 1
                  have e2 := KA31.out.cell 2
                  have e3 := KA31.out.cell 3
                  have e4 := KA31.out.cell 4
                  have f0 := KA31.out.frozen 0
                  have f1 := KA31.out.frozen 1
                  have f2 := KA31.out.frozen 2
                  have f3 := KA31.out.frozen 3
                  have f4 := KA31.out.frozen 4
                  simp at e0 e1 e2 e3 e4
                  have le := KA31.out.lt
                  have pp := put5 KA31.out KB31.out hne HZ31.out hg30 (.int .i64 2) (.slice hb9 hn9 hc9) (.slice S9 ns9 cs9) (.slice K9 nk9 ck9) (.int .i64 used9)
                  go_simp
                  clear e0 e1 e2 e3 e4 f0 f1 f2 f3 f4 le
                  refine hK _ _ (noT_no (by kernel_rfl)) ?_
                  clear hK
                  (try simp only [Act.put, List.setIfInBounds_toArray, List.set_cons_zero, List.set_cons_succ])
                  obtain ⟨v5, hv5⟩ : ∃ z : World, z = (((((v31_.setCell ⟨bA, 0, none⟩ (.int .i64 2)).setCell ⟨bA, 1, none⟩ (.slice hb9 hn9 hc9)).setCell ⟨bA, 2, none⟩ (.slice S9 ns9 cs9)).setCell ⟨bA, 3, none⟩ (.slice K9 nk9 ck9)).setCell ⟨bA, 4, none⟩ (.int .i64 used9)) := ⟨_, rfl⟩
                  obtain ⟨p1, p2, p3⟩ := pp
                  rw [← hv5] at p1 p2 p3 ⊢
                  have P1 := Lib.hid p1
                  have P2 := Lib.hid p2
                  have P3 := Lib.hid p3
                  clear hv5 p1 p2 p3
                  refine oneT (i := 10) (by kernel_rfl) rfl (by rfl) (fun K hK => ?_)
                  have e0 := P2.out.cell 0
                  have e1 := P2.out.cell 1
                  have f0 := P2.out.frozen 0
                  have f1 := P2.out.frozen 1
                  simp at e0 e1
                  have le := P2.out.lt
                  have pq := put2_ P1.out P2.out hne P3.out hg26
                  go_simp
                  clear e0 e1 f0 f1 le
                  refine hK _ _ (noT_no (by kernel_rfl)) ?_
                  clear hK
                  (try simp only [Act.put, List.setIfInBounds_toArray, List.set_cons_zero, List.set_cons_succ])
                  obtain ⟨v6, hv6⟩ : ∃ z : World, z = ((v5.setCell ⟨bB, 0, none⟩ (.int .i64 0)).setCell ⟨bB, 1, none⟩ (.int .i64 0)) := ⟨_, rfl⟩
                  obtain ⟨p1, p2, p3⟩ := pq
                  rw [← hv6] at p1 p2 p3 ⊢
                  have Q1 := Lib.hid p1
                  have Q2 := Lib.hid p2
                  have Q3 := Lib.hid p3
                  clear hv6 p1 p2 p3 P1 P2 P3
                  refine doneT (by kernel_rfl) ?_ _
                  have c1 := keepBox Q3.out kz1
                  have zc := (cell_lt c1).1
                  have a0 := Q1.out.cell 0
                  have a4 := Q1.out.lt
                  have b0 := Q2.out.cell 0
                  have b4 := Q2.out.lt
                  simp at a0 b0
                  by_cases h40 : (40 : Int) < (nC : Int)
                  all_goals
                    go_wp2_with fail
                    go_ret
                    exact ⟨rfl, below_next HBz.out Q3.out⟩
              · go_simp
                obtain ⟨v32_, h32⟩ : ∃ z : World, z = v26_.alloc (.cells #[.int .i64 0, .slice none 0 0, .slice none 0 0, .slice none 0 0, .int .i64 0] 46) := ⟨_, rfl⟩
                have b32 : Below v26_.heap.size v26_ v32_ := by rw [h32]; exact below_new _ _
                have KA32 : Hid (Blk v32_ v26_.heap.size 46 #[.int .i64 0, .slice none 0 0, .slice none 0 0, .slice none 0 0, .int .i64 0]) := by rw [h32]; exact Blk.new _ _ _
                rw [← h32]
                obtain ⟨bA, hbA⟩ : ∃ z : Nat, v26_.heap.size = z := ⟨_, rfl⟩
                have hg32 : wz.heap.size ≤ bA := by rw [← hbA]; exact HZ26.out.size
                rw [hbA] at KA32 ⊢
                have hne : bA ≠ bB := by have := KB26.out.lt; omega
                have KB32 := Lib.hid (KB26.out.keep b32)
                have HZ32 := Lib.hid (below_next HZ26.out b32)
                have hS : v32_.cell? ⟨w.heap.size, 0, none⟩ = some (.int .i64 5) ∧ v32_.cell? ⟨w.heap.size, 1, none⟩ = some (.slice C nC cC) := ⟨keepBox HZ32.out kz0, keepBox HZ32.out kz1⟩
                clear h32 hbA
                clear b32
                refine hK _ _ (fun _ => hS) ?_
                clear hK
                (try simp only [Act.put, List.setIfInBounds_toArray, List.set_cons_zero, List.set_cons_succ])
                refine oneT (i := 2) (by kernel_rfl) rfl (by rfl) (fun K hK => ?_)
                go_simp
                refine (optionsOf_any o v32_ HOP.out).mono ?_
                rintro e v33_ ⟨so, ro, ko, po, rfl, hs1, hs2, hs3, hs4, b33⟩
                have KA33 := Lib.hid (KA32.out.keep b33)
                have KB33 := Lib.hid (KB32.out.keep b33)
                have HZ33 := Lib.hid (below_next HZ32.out b33)
                have hS : v33_.cell? ⟨w.heap.size, 0, none⟩ = some (.int .i64 5) ∧ v33_.cell? ⟨w.heap.size, 1, none⟩ = some (.slice C nC cC) := ⟨keepBox HZ33.out kz0, keepBox HZ33.out kz1⟩
                clear b33
                refine hK _ _ (fun _ => hS) ?_
                clear hK
                (try simp only [Act.put, List.setIfInBounds_toArray, List.set_cons_zero, List.set_cons_succ])
                refine oneT (i := 3) (by kernel_rfl) rfl (by rfl) (fun K hK => ?_)
                go_simp
                have hlw := HZ33.out.size
                refine (cdcl_any C none nC cC 0 0 xss [] 5 v33_ (HCz.out.grid.keep HZ33.out) HNN.out (fun a ha => Nat.lt_of_lt_of_le (HLL.out a ha) hlw) ⟨Sl_nil v33_, by simp⟩ HBES.out so ro ko po hs1 hs2 hs3 hs4 2000 (Nat.le_refl _) core_none).mono ?_
                rintro e v34_ ⟨st9, hb9, hn9, hc9, S9, ns9, cs9, K9, nk9, ck9, used9, rfl, b34, ha9⟩
                obtain rfl : st9 = 2 := answ_par (qs := []) HF.out (by rw [← HX.out]; exact ha9) (.inl ⟨rfl, HRS.out⟩)
                clear ha9 hlw
                have KA34 := Lib.hid (KA33.out.keep b34)
                have KB34 := Lib.hid (KB33.out.keep b34)
                have HZ34 := Lib.hid (below_next HZ33.out b34)
                have hS : v34_.cell? ⟨w.heap.size, 0, none⟩ = some (.int .i64 5) ∧ v34_.cell? ⟨w.heap.size, 1, none⟩ = some (.slice C nC cC) := ⟨keepBox HZ34.out kz0, keepBox HZ34.out kz1⟩
                clear b34
                refine hK _ _ (fun _ => hS) ?_
                clear hK
                (try simp only [Act.put, List.setIfInBounds_toArray, List.set_cons_zero, List.set_cons_succ])
                refine take0 (i := 4) (oi := _) (v := ?_) rfl (by kernel_rfl) (by kernel_rfl) (by kernel_rfl) (fun _ _ _ h => h) rfl (Or.inl ⟨by rfl, ?_⟩) (fun _ => hS) ?_
                rotate_left
                · intro w0; go_simp; with_reducible rfl
                (try simp only [Act.put, List.setIfInBounds_toArray, List.set_cons_zero, List.set_cons_succ])
                refine take0 (i := 5) (oi := _) (v := ?_) rfl (by kernel_rfl) (by kernel_rfl) (by kernel_rfl) (fun _ _ _ h => h) rfl (Or.inl ⟨by rfl, ?_⟩) (fun _ => hS) ?_
                rotate_left
                · intro w0; go_simp; with_reducible rfl
                (try simp only [Act.put, List.setIfInBounds_toArray, List.set_cons_zero, List.set_cons_succ])
                refine take0 (i := 6) (oi := _) (v := ?_) rfl (by kernel_rfl) (by kernel_rfl) (by kernel_rfl) (fun _ _ _ h => h) rfl (Or.inl ⟨by rfl, ?_⟩) (fun _ => hS) ?_
                rotate_left
                · intro w0; go_simp; with_reducible rfl
                (try simp only [Act.put, List.setIfInBounds_toArray, List.set_cons_zero, List.set_cons_succ])
                refine oneT (i := 9) (by kernel_rfl) rfl (by rfl) (fun K hK => ?_)
                have e0 := KA34.out.cell 0
                have e1 := KA34.out.cell 1
                have e2 := KA34.out.cell 2
                have e3 := KA34.out.cell 3
                have e4 := KA34.out.cell 4
                have f0 := KA34.out.frozen 0
                have f1 := KA34.out.frozen 1
                have f2 := KA34.out.frozen 2
                have f3 := KA34.out.frozen 3
                have f4 := KA34.out.frozen 4
                simp at e0 e1 e2 e3 e4
                have le := KA34.out.lt
                have pp := put5 KA34.out KB34.out hne HZ34.out hg32 (.int .i64 2) (.slice hb9 hn9 hc9) (.slice S9 ns9 cs9) (.slice K9 nk9 ck9) (.int .i64 used9)
                go_simp
                clear e0 e1 e2 e3 e4 f0 f1 f2 f3 f4 le
                refine hK _ _ (noT_no (by kernel_rfl)) ?_
                clear hK
                (try simp only [Act.put, List.setIfInBounds_toArray, List.set_cons_zero, List.set_cons_succ])
                obtain ⟨v5, hv5⟩ : ∃ z : World, z = (((((v34_.setCell ⟨bA, 0, none⟩ (.int .i64 2)).setCell ⟨bA, 1, none⟩ (.slice hb9 hn9 hc9)).setCell ⟨bA, 2, none⟩ (.slice S9 ns9 cs9)).setCell ⟨bA, 3, none⟩ (.slice K9 nk9 ck9)).setCell ⟨bA, 4, none⟩ (.int .i64 used9)) := ⟨_, rfl⟩
                obtain ⟨p1, p2, p3⟩ := pp
                rw [← hv5] at p1 p2 p3 ⊢
                have P1 := Lib.hid p1
                have P2 := Lib.hid p2
                have P3 := Lib.hid p3
                clear hv5 p1 p2 p3
                refine oneT (i := 10) (by kernel_rfl) rfl (by rfl) (fun K hK => ?_)
                have e0 := P2.out.cell 0
                have e1 := P2.out.cell 1
                have f0 := P2.out.frozen 0
                have f1 := P2.out.frozen 1
                simp at e0 e1
                have le := P2.out.lt
                have pq := put2_ P1.out P2.out hne P3.out hg26
                go_simp
                clear e0 e1 f0 f1 le
                refine hK _ _ (noT_no (by kernel_rfl)) ?_
                clear hK
                (try simp only [Act.put, List.setIfInBounds_toArray, List.set_cons_zero, List.set_cons_succ])
                obtain ⟨v6, hv6⟩ : ∃ z : World, z = ((v5.setCell ⟨bB, 0, none⟩ (.int .i64 0)).setCell ⟨bB, 1, none⟩ (.int .i64 0)) := ⟨_, rfl⟩
                obtain ⟨p1, p2, p3⟩ := pq
                rw [← hv6] at p1 p2 p3 ⊢
                have Q1 := Lib.hid p1
                have Q2 := Lib.hid p2
                have Q3 := Lib.hid p3
                clear hv6 p1 p2 p3 P1 P2 P3
                refine doneT (by kernel_rfl) ?_ _
                have c1 := keepBox Q3.out kz1
                have zc := (cell_lt c1).1
                have a0 := Q1.out.cell 0
                have a4 := Q1.out.lt
                have b0 := Q2.out.cell 0
                have b4 := Q2.out.lt
                simp at a0 b0
                by_cases h40 : (40 : Int) < (nC : Int)
                all_goals
                  go_wp2_with fail
                  go_ret
                  exact ⟨rfl, below_next HBz.out Q3.out⟩
        · as_aux_lemma =>
            have HKa := Lib.hid (HK.out.keep hba)
            have HCa := Lib.hid (HC.out.keep hba)
            have HBa := Lib.hid (below_next HB.out hba)
            have HXoa := Lib.hid hXo
            have HRS := Lib.hid hrs
            have HPQ := Lib.hid hpq
            have HAS : Hid (allB xss (assignF 5 qs) = true) := by show _ = _; rw [HX.out]; exact par_some HF.out hrs hpq
            obtain ⟨cn, hcn⟩ : ∃ cn : Nat, Hid (cntF xss 32 = cn + 1) := ⟨cntF xss 32 - 1, by have := par_cnt HF.out hrs hpq; rw [← HX.out] at this; show _ = _; omega⟩
            have v0 : (0 : Int) < ((cn + 1 : Nat) : Int) := by omega
            have v00 : (0 : Int) < (cn : Int) + 1 := by omega
            have dv0 : decide ((0 : Int) < (cn : Int) + 1) = true := decide_eq_true v00
            clear hXo hrs hpq
            clear HK HC HB hba HPS k0 k1 k4
            go_wp2_with fail
            obtain ⟨wb, hwb⟩ : ∃ z : World, z = wa.alloc (.cells #[.int .i64 0, .int .i64 0] 28) := ⟨_, rfl⟩
            have hbb : Below wa.heap.size wa wb := by rw [hwb]; exact below_new _ _
            have HKb := Lib.hid (HKa.out.keep hbb)
            have HCb := Lib.hid (HCa.out.keep hbb)
            have HXob := Lib.hid (HXoa.out.keep hbb)
            have HBb := Lib.hid (below_next HBa.out hbb)
            try rw [← hwb]
            clear hwb hbb HKa HCa HBa HXoa
            refine (sure_any wb).mono ?_
            rintro e wc ⟨rfl, hbc⟩
            have HKc := Lib.hid (HKb.out.keep hbc)
            have HCc := Lib.hid (HCb.out.keep hbc)
            have HXoc := Lib.hid (HXob.out.keep hbc)
            have HBc := Lib.hid (below_next HBb.out hbc)
            have k0 := HKc.out.cell 0
            have k1 := HKc.out.cell 1
            have k4 := HKc.out.lt
            simp at k0 k1
            clear hbc HKb HCb HBb HXob
            go_wp2_with fail
            refine (models_any C nC cC xss wc HCc.out.grid (fun x hx => (HL5.out x hx).2)).mono ?_
            rintro e wd ⟨rfl, hbd⟩
            have HKd := Lib.hid (HKc.out.keep hbd)
            have HCd := Lib.hid (HCc.out.keep hbd)
            have HXod := Lib.hid (HXoc.out.keep hbd)
            have HBd := Lib.hid (below_next HBc.out hbd)
            clear k0 k1 k4
            have k0 := HKd.out.cell 0
            have k1 := HKd.out.cell 1
            have k4 := HKd.out.lt
            simp at k0 k1
            clear hbd HKc HCc HBc HXoc
            rw [hcn.out]
            go_wp2_with fail
            refine (clHold_any C X nC cC 5 dx xss (assignF 5 qs) wd HCd.out.grid HXod.out.sl (fun x hx => (HL5.out x hx).2) (by omega) true HAS).mono ?_
            rintro e we ⟨rfl, me, hme⟩
            have hbe : Below wd.heap.size wd we := by rw [hme]; exact below_drewN _ _
            have HKe := Lib.hid (HKd.out.keep hbe)
            have HCe := Lib.hid (HCd.out.keep hbe)
            have HBe := Lib.hid (below_next HBd.out hbe)
            clear k0 k1 k4
            have k0 := HKe.out.cell 0
            have k1 := HKe.out.cell 1
            have k4 := HKe.out.lt
            simp at k0 k1
            clear hbe hme HKd HCd HBd HXod
            go_wp2_with fail
            obtain ⟨wz, hwz⟩ : ∃ z : World, z = we.drew := ⟨_, rfl⟩
            have hbz : Below we.heap.size we wz := by rw [hwz]; exact below_drewN _ 1
            have HKz := Lib.hid (HKe.out.keep hbz)
            have HCz := Lib.hid (HCe.out.keep hbz)
            have HBz := Lib.hid (below_next HBe.out hbz)
            have kz0 := HKz.out.cell 0
            have kz1 := HKz.out.cell 1
            have kz4 := HKz.out.lt
            simp at kz0 kz1
            have hS : wz.cell? ⟨w.heap.size, 0, none⟩ = some (.int .i64 5) ∧ wz.cell? ⟨w.heap.size, 1, none⟩ = some (.slice C nC cC) := ⟨kz0, kz1⟩
            have HZ0 := Lib.hid (Below.refl wz.heap.size wz)
            have HNN : Hid (C = none → cC = 0) := ownP_nil_ HCz.out
            have HLL : Hid (∀ a, C = some a → a.block < wz.heap.size) := ownP_lt_ HCz.out
            clear hbz HKe HCe HBe k0 k1 k4
            refine wp_region_tail (fun w' => w'.cell? ⟨w.heap.size, 0, none⟩ = some (.int .i64 5) ∧ w'.cell? ⟨w.heap.size, 1, none⟩ = some (.slice C nC cC)) [9, 10] (by kernel_rfl) ?_
            change wpAnyT _ _ _ _ _ _ _ _ _ we.drew
            rw [← hwz]
            clear hwz
            refine takeS (i := 0) (oi := _) (v := ?_) rfl (by kernel_rfl) (by kernel_rfl) (by kernel_rfl) (fun _ _ _ h => h) rfl (by kernel_rfl) (by kernel_rfl) (Or.inl ⟨by rfl, ?_⟩) hS ?_
            rotate_left
            · intro w0 hSw; (try dsimp only at hSw); go_simp; with_reducible rfl
            (try simp only [Act.put, List.setIfInBounds_toArray, List.set_cons_zero, List.set_cons_succ])
            refine take0 (i := 1) (oi := _) (v := ?_) rfl (by kernel_rfl) (by kernel_rfl) (by kernel_rfl) (fun _ _ _ h => h) rfl (Or.inl ⟨by rfl, ?_⟩) (fun _ => hS) ?_
            rotate_left
            · intro w0; go_simp; with_reducible rfl
            (try simp only [Act.put, List.setIfInBounds_toArray, List.set_cons_zero, List.set_cons_succ])
            refine threeT_ (i := 2) (j := 7) (k := 8) (by kernel_rfl) rfl (by rfl) rfl (by rfl) rfl (by rfl) (fun K hK => ?_) (fun K hK => ?_) (fun K hK => ?_)
            · go_simp
              refine (optionsOf_any o wz HOP.out).mono ?_
              rintro e v1_ ⟨so, ro, ko, po, rfl, hs1, hs2, hs3, hs4, b1⟩
              have HZ1 := Lib.hid (below_next HZ0.out b1)
              have hS : v1_.cell? ⟨w.heap.size, 0, none⟩ = some (.int .i64 5) ∧ v1_.cell? ⟨w.heap.size, 1, none⟩ = some (.slice C nC cC) := ⟨keepBox HZ1.out kz0, keepBox HZ1.out kz1⟩
              clear b1
              refine hK _ _ (fun _ => hS) ?_
              clear hK
              (try simp only [Act.put, List.setIfInBounds_toArray, List.set_cons_zero, List.set_cons_succ])
              refine threeT_ (i := 3) (j := 7) (k := 8) (by kernel_rfl) rfl (by rfl) rfl (by rfl) rfl (by rfl) (fun K hK => ?_) (fun K hK => ?_) (fun K hK => ?_)
              · go_simp
                have hlw := HZ1.out.size
                refine (cdcl_any C none nC cC 0 0 xss [] 5 v1_ (HCz.out.grid.keep HZ1.out) HNN.out (fun a ha => Nat.lt_of_lt_of_le (HLL.out a ha) hlw) ⟨Sl_nil v1_, by simp⟩ HBES.out so ro ko po hs1 hs2 hs3 hs4 2000 (Nat.le_refl _) core_none).mono ?_
                rintro e v2_ ⟨st9, hb9, hn9, hc9, S9, ns9, cs9, K9, nk9, ck9, used9, rfl, b2, ha9⟩
                obtain rfl : st9 = 1 := answ_par (qs := qs) HF.out (by rw [← HX.out]; exact ha9) (.inr ⟨rfl, rows, HRS.out, HPQ.out⟩)
                clear ha9 hlw
                have HZ2 := Lib.hid (below_next HZ1.out b2)
                have hS : v2_.cell? ⟨w.heap.size, 0, none⟩ = some (.int .i64 5) ∧ v2_.cell? ⟨w.heap.size, 1, none⟩ = some (.slice C nC cC) := ⟨keepBox HZ2.out kz0, keepBox HZ2.out kz1⟩
                clear b2
                refine hK _ _ (fun _ => hS) ?_
                clear hK
                (try simp only [Act.put, List.setIfInBounds_toArray, List.set_cons_zero, List.set_cons_succ])
                refine take0 (i := 4) (oi := _) (v := ?_) rfl (by kernel_rfl) (by kernel_rfl) (by kernel_rfl) (fun _ _ _ h => h) rfl (Or.inl ⟨by rfl, ?_⟩) (fun _ => hS) ?_
                rotate_left
                · intro w0; go_simp; with_reducible rfl
                (try simp only [Act.put, List.setIfInBounds_toArray, List.set_cons_zero, List.set_cons_succ])
                refine take0 (i := 5) (oi := _) (v := ?_) rfl (by kernel_rfl) (by kernel_rfl) (by kernel_rfl) (fun _ _ _ h => h) rfl (Or.inl ⟨by rfl, ?_⟩) (fun _ => hS) ?_
                rotate_left
                · intro w0; go_simp; with_reducible rfl
                (try simp only [Act.put, List.setIfInBounds_toArray, List.set_cons_zero, List.set_cons_succ])
                refine take0 (i := 6) (oi := _) (v := ?_) rfl (by kernel_rfl) (by kernel_rfl) (by kernel_rfl) (fun _ _ _ h => h) rfl (Or.inl ⟨by rfl, ?_⟩) (fun _ => hS) ?_
                rotate_left
                · intro w0; go_simp; with_reducible rfl
                (try simp only [Act.put, List.setIfInBounds_toArray, List.set_cons_zero, List.set_cons_succ])
                refine twoT (i := 7) (j := 8) (by kernel_rfl) rfl (by rfl) rfl (by rfl) (fun K hK => ?_) (fun K hK => ?_)
                · go_simp
                  obtain ⟨v3_, h3⟩ : ∃ z : World, z = v2_.alloc (.cells #[.int .i64 0, .slice none 0 0, .slice none 0 0, .slice none 0 0, .int .i64 0] 46) := ⟨_, rfl⟩
                  have b3 : Below v2_.heap.size v2_ v3_ := by rw [h3]; exact below_new _ _
                  have KA3 : Hid (Blk v3_ v2_.heap.size 46 #[.int .i64 0, .slice none 0 0, .slice none 0 0, .slice none 0 0, .int .i64 0]) := by rw [h3]; exact Blk.new _ _ _
                  rw [← h3]
                  obtain ⟨bA, hbA⟩ : ∃ z : Nat, v2_.heap.size = z := ⟨_, rfl⟩
                  have hg3 : wz.heap.size ≤ bA := by rw [← hbA]; exact HZ2.out.size
                  rw [hbA] at KA3 ⊢
                  have HZ3 := Lib.hid (below_next HZ2.out b3)
                  have hS : v3_.cell? ⟨w.heap.size, 0, none⟩ = some (.int .i64 5) ∧ v3_.cell? ⟨w.heap.size, 1, none⟩ = some (.slice C nC cC) := ⟨keepBox HZ3.out kz0, keepBox HZ3.out kz1⟩
                  clear h3 hbA
                  clear b3
                  refine hK _ _ (fun _ => hS) ?_
                  clear hK
                  (try simp only [Act.put, List.setIfInBounds_toArray, List.set_cons_zero, List.set_cons_succ])
                  refine oneT (i := 8) (by kernel_rfl) rfl (by rfl) (fun K hK => ?_)
                  go_simp
                  obtain ⟨v4_, h4⟩ : ∃ z : World, z = v3_.alloc (.cells #[.int .i64 0, .int .i64 0] 28) := ⟨_, rfl⟩
                  have b4 : Below v3_.heap.size v3_ v4_ := by rw [h4]; exact below_new _ _
                  have KB4 : Hid (Blk v4_ v3_.heap.size 28 #[.int .i64 0, .int .i64 0]) := by rw [h4]; exact Blk.new _ _ _
                  rw [← h4]
                  obtain ⟨bB, hbB⟩ : ∃ z : Nat, v3_.heap.size = z := ⟨_, rfl⟩
                  have hg4 : wz.heap.size ≤ bB := by rw [← hbB]; exact HZ3.out.size
                  rw [hbB] at KB4 ⊢
                  have hne : bA ≠ bB := by have := KA3.out.lt; omega
                  have KA4 := Lib.hid (KA3.out.keep b4)
                  have HZ4 := Lib.hid (below_next HZ3.out b4)
                  have hS : v4_.cell? ⟨w.heap.size, 0, none⟩ = some (.int .i64 5) ∧ v4_.cell? ⟨w.heap.size, 1, none⟩ = some (.slice C nC cC) := ⟨keepBox HZ4.out kz0, keepBox HZ4.out kz1⟩
                  clear h4 hbB
                  clear b4
                  refine hK _ _ (fun _ => hS) ?_
                  clear hK
                  (try simp only [Act.put, List.setIfInBounds_toArray, List.set_cons_zero, List.set_cons_succ])
                  refine oneT (i := 9) (by kernel_rfl) rfl (by rfl) (fun K hK => ?_)
                  have e0 := KA4.out.cell 0
                  have e1 := KA4.out.cell 1
                  have e2 := KA4.out.cell 2
                  have e3 := KA4.out.cell 3
                  have e4 := KA4.out.cell 4
                  have f0 := KA4.out.frozen 0
                  have f1 := KA4.out.frozen 1
                  have f2 := KA4.out.frozen 2
                  have f3 := KA4.out.frozen 3
                  have f4 := KA4.out.frozen 4
                  simp at e0 e1 e2 e3 e4
                  have le := KA4.out.lt
                  have pp := put5 KA4.out KB4.out hne HZ4.out hg3 (.int .i64 1) (.slice hb9 hn9 hc9) (.slice S9 ns9 cs9) (.slice K9 nk9 ck9) (.int .i64 used9)
                  go_simp
                  clear e0 e1 e2 e3 e4 f0 f1 f2 f3 f4 le
                  refine hK _ _ (noT_no (by kernel_rfl)) ?_
                  clear hK
                  (try simp only [Act.put, List.setIfInBounds_toArray, List.set_cons_zero, List.set_cons_succ])
                  obtain ⟨v5, hv5⟩ : ∃ z : World, z = (((((v4_.setCell ⟨bA, 0, none⟩ (.int .i64 1)).setCell ⟨bA, 1, none⟩ (.slice hb9 hn9 hc9)).setCell ⟨bA, 2, none⟩ (.slice S9 ns9 cs9)).setCell ⟨bA, 3, none⟩ (.slice K9 nk9 ck9)).setCell ⟨bA, 4, none⟩ (.int .i64 used9)) := ⟨_, rfl⟩
                  obtain ⟨p1, p2, p3⟩ := pp
                  rw [← hv5] at p1 p2 p3 ⊢
                  have P1 := Lib.hid p1
                  have P2 := Lib.hid p2
                  have P3 := Lib.hid p3
                  clear hv5 p1 p2 p3
                  refine oneT (i := 10) (by kernel_rfl) rfl (by rfl) (fun K hK => ?_)
                  have e0 := P2.out.cell 0
                  have e1 := P2.out.cell 1
                  have f0 := P2.out.frozen 0
                  have f1 := P2.out.frozen 1
                  simp at e0 e1
                  have le := P2.out.lt
                  have pq := put2_ P1.out P2.out hne P3.out hg4
                  go_simp
                  clear e0 e1 f0 f1 le
                  refine hK _ _ (noT_no (by kernel_rfl)) ?_
                  clear hK
                  (try simp only [Act.put, List.setIfInBounds_toArray, List.set_cons_zero, List.set_cons_succ])
                  obtain ⟨v6, hv6⟩ : ∃ z : World, z = ((v5.setCell ⟨bB, 0, none⟩ (.int .i64 0)).setCell ⟨bB, 1, none⟩ (.int .i64 0)) := ⟨_, rfl⟩
                  obtain ⟨p1, p2, p3⟩ := pq
                  rw [← hv6] at p1 p2 p3 ⊢
                  have Q1 := Lib.hid p1
                  have Q2 := Lib.hid p2
                  have Q3 := Lib.hid p3
                  clear hv6 p1 p2 p3 P1 P2 P3
                  refine doneT (by kernel_rfl) ?_ _
                  have c1 := keepBox Q3.out kz1
                  have zc := (cell_lt c1).1
                  have a0 := Q1.out.cell 0
                  have a4 := Q1.out.lt
                  have b0 := Q2.out.cell 0
                  have b4 := Q2.out.lt
                  simp at a0 b0
                  by_cases h40 : (40 : Int) < (nC : Int)
                  all_goals
                    go_wp2_with fail
                    go_ret
                    exact ⟨rfl, below_next HBz.out Q3.out⟩
                · go_simp
                  obtain ⟨v5_, h5⟩ : ∃ z : World, z = v2_.alloc (.cells #[.int .i64 0, .int .i64 0] 28) := ⟨_, rfl⟩
                  have b5 : Below v2_.heap.size v2_ v5_ := by rw [h5]; exact below_new _ _
                  have KB5 : Hid (Blk v5_ v2_.heap.size 28 #[.int .i64 0, .int .i64 0]) := by rw [h5]; exact Blk.new _ _ _
                  rw [← h5]
                  obtain ⟨bB, hbB⟩ : ∃ z : Nat, v2_.heap.size = z := ⟨_, rfl⟩
                  have hg5 : wz.heap.size ≤ bB := by rw [← hbB]; exact HZ2.out.size
                  rw [hbB] at KB5 ⊢
                  have HZ5 := Lib.hid (below_next HZ2.out b5)
                  have hS : v5_.cell? ⟨w.heap.size, 0, none⟩ = some (.int .i64 5) ∧ v5_.cell? ⟨w.heap.size, 1, none⟩ = some (.slice C nC cC) := ⟨keepBox HZ5.out kz0, keepBox HZ5.out kz1⟩
                  clear h5 hbB
                  clear b5
                  refine hK _ _ (fun _ => hS) ?_
                  clear hK
                  (try simp only [Act.put, List.setIfInBounds_toArray, List.set_cons_zero, List.set_cons_succ])
                  refine oneT (i := 7) (by kernel_rfl) rfl (by rfl) (fun K hK => ?_)
                  go_simp
                  obtain ⟨v6_, h6⟩ : ∃ z : World, z = v5_.alloc (.cells #[.int .i64 0, .slice none 0 0, .slice none 0 0, .slice none 0 0, .int .i64 0] 46) := ⟨_, rfl⟩
                  have b6 : Below v5_.heap.size v5_ v6_ := by rw [h6]; exact below_new _ _
                  have KA6 : Hid (Blk v6_ v5_.heap.size 46 #[.int .i64 0, .slice none 0 0, .slice none 0 0, .slice none 0 0, .int .i64 0]) := by rw [h6]; exact Blk.new _ _ _
                  rw [← h6]
                  obtain ⟨bA, hbA⟩ : ∃ z : Nat, v5_.heap.size = z := ⟨_, rfl⟩
                  have hg6 : wz.heap.size ≤ bA := by rw [← hbA]; exact HZ5.out.size
                  rw [hbA] at KA6 ⊢
                  have hne : bA ≠ bB := by have := KB5.out.lt; omega
                  have KB6 := Lib.hid (KB5.out.keep b6)
                  have HZ6 := Lib.hid (below_next HZ5.out b6)
                  have hS : v6_.cell? ⟨w.heap.size, 0, none⟩ = some (.int .i64 5) ∧ v6_.cell? ⟨w.heap.size, 1, none⟩ = some (.slice C nC cC) := ⟨keepBox HZ6.out kz0, keepBox HZ6.out kz1⟩
                  clear h6 hbA
                  clear b6
                  refine hK _ _ (fun _ => hS) ?_
                  clear hK
                  (try simp only [Act.put, List.setIfInBounds_toArray, List.set_cons_zero, List.set_cons_succ])
                  refine oneT (i := 9) (by kernel_rfl) rfl (by rfl) (fun K hK => ?_)
                  have e0 := KA6.out.cell 0
                  have e1 := KA6.out.cell 1
                  have e2 := KA6.out.cell 2
                  have e3 := KA6.out.cell 3
                  have e4 := KA6.out.cell 4
                  have f0 := KA6.out.frozen 0
                  have f1 := KA6.out.frozen 1
                  have f2 := KA6.out.frozen 2
                  have f3 := KA6.out.frozen 3
                  have f4 := KA6.out.frozen 4
                  simp at e0 e1 e2 e3 e4
                  have le := KA6.out.lt
                  have pp := put5 KA6.out KB6.out hne HZ6.out hg6 (.int .i64 1) (.slice hb9 hn9 hc9) (.slice S9 ns9 cs9) (.slice K9 nk9 ck9) (.int .i64 used9)
                  go_simp
                  clear e0 e1 e2 e3 e4 f0 f1 f2 f3 f4 le
                  refine hK _ _ (noT_no (by kernel_rfl)) ?_
                  clear hK
                  (try simp only [Act.put, List.setIfInBounds_toArray, List.set_cons_zero, List.set_cons_succ])
                  obtain ⟨v5, hv5⟩ : ∃ z : World, z = (((((v6_.setCell ⟨bA, 0, none⟩ (.int .i64 1)).setCell ⟨bA, 1, none⟩ (.slice hb9 hn9 hc9)).setCell ⟨bA, 2, none⟩ (.slice S9 ns9 cs9)).setCell ⟨bA, 3, none⟩ (.slice K9 nk9 ck9)).setCell ⟨bA, 4, none⟩ (.int .i64 used9)) := ⟨_, rfl⟩
                  obtain ⟨p1, p2, p3⟩ := pp
                  rw [← hv5] at p1 p2 p3 ⊢
                  have P1 := Lib.hid p1
                  have P2 := Lib.hid p2
                  have P3 := Lib.hid p3
                  clear hv5 p1 p2 p3
                  refine oneT (i := 10) (by kernel_rfl) rfl (by rfl) (fun K hK => ?_)
                  have e0 := P2.out.cell 0
                  have e1 := P2.out.cell 1
                  have f0 := P2.out.frozen 0
                  have f1 := P2.out.frozen 1
                  simp at e0 e1
                  have le := P2.out.lt
                  have pq := put2_ P1.out P2.out hne P3.out hg5
                  go_simp
                  clear e0 e1 f0 f1 le
                  refine hK _ _ (noT_no (by kernel_rfl)) ?_
                  clear hK
                  (try simp only [Act.put, List.setIfInBounds_toArray, List.set_cons_zero, List.set_cons_succ])
                  obtain ⟨v6, hv6⟩ : ∃ z : World, z = ((v5.setCell ⟨bB, 0, none⟩ (.int .i64 0)).setCell ⟨bB, 1, none⟩ (.int .i64 0)) := ⟨_, rfl⟩
                  obtain ⟨p1, p2, p3⟩ := pq
                  rw [← hv6] at p1 p2 p3 ⊢
                  have Q1 := Lib.hid p1
                  have Q2 := Lib.hid p2
                  have Q3 := Lib.hid p3
                  clear hv6 p1 p2 p3 P1 P2 P3
                  refine doneT (by kernel_rfl) ?_ _
                  have c1 := keepBox Q3.out kz1
                  have zc := (cell_lt c1).1
                  have a0 := Q1.out.cell 0
                  have a4 := Q1.out.lt
                  have b0 := Q2.out.cell 0
                  have b4 := Q2.out.lt
                  simp at a0 b0
                  by_cases h40 : (40 : Int) < (nC : Int)
                  all_goals
                    go_wp2_with fail
                    go_ret
                    exact ⟨rfl, below_next HBz.out Q3.out⟩
              · go_simp
                obtain ⟨v7_, h7⟩ : ∃ z : World, z = v1_.alloc (.cells #[.int .i64 0, .slice none 0 0, .slice none 0 0, .slice none 0 0, .int .i64 0] 46) := ⟨_, rfl⟩
                have b7 : Below v1_.heap.size v1_ v7_ := by rw [h7]; exact below_new _ _
                have KA7 : Hid (Blk v7_ v1_.heap.size 46 #[.int .i64 0, .slice none 0 0, .slice none 0 0, .slice none 0 0, .int .i64 0]) := by rw [h7]; exact Blk.new _ _ _
                rw [← h7]
                obtain ⟨bA, hbA⟩ : ∃ z : Nat, v1_.heap.size = z := ⟨_, rfl⟩
                have hg7 : wz.heap.size ≤ bA := by rw [← hbA]; exact HZ1.out.size
                rw [hbA] at KA7 ⊢
                have HZ7 := Lib.hid (below_next HZ1.out b7)
                have hS : v7_.cell? ⟨w.heap.size, 0, none⟩ = some (.int .i64 5) ∧ v7_.cell? ⟨w.heap.size, 1, none⟩ = some (.slice C nC cC) := ⟨keepBox HZ7.out kz0, keepBox HZ7.out kz1⟩
                clear h7 hbA
                clear b7
                refine hK _ _ (fun _ => hS) ?_
                clear hK
                (try simp only [Act.put, List.setIfInBounds_toArray, List.set_cons_zero, List.set_cons_succ])
                refine twoT (i := 3) (j := 8) (by kernel_rfl) rfl (by rfl) rfl (by rfl) (fun K hK => ?_) (fun K hK => ?_)
                · go_simp
                  have hlw := HZ7.out.size
                  refine (cdcl_any C none nC cC 0 0 xss [] 5 v7_ (HCz.out.grid.keep HZ7.out) HNN.out (fun a ha => Nat.lt_of_lt_of_le (HLL.out a ha) hlw) ⟨Sl_nil v7_, by simp⟩ HBES.out so ro ko po hs1 hs2 hs3 hs4 2000 (Nat.le_refl _) core_none).mono ?_
                  rintro e v8_ ⟨st9, hb9, hn9, hc9, S9, ns9, cs9, K9, nk9, ck9, used9, rfl, b8, ha9⟩
                  obtain rfl : st9 = 1 := answ_par (qs := qs) HF.out (by rw [← HX.out]; exact ha9) (.inr ⟨rfl, rows, HRS.out, HPQ.out⟩)
                  clear ha9 hlw
                  have KA8 := Lib.hid (KA7.out.keep b8)
                  have HZ8 := Lib.hid (below_next HZ7.out b8)
                  have hS : v8_.cell? ⟨w.heap.size, 0, none⟩ = some (.int .i64 5) ∧ v8_.cell? ⟨w.heap.size, 1, none⟩ = some (.slice C nC cC) := ⟨keepBox HZ8.out kz0, keepBox HZ8.out kz1⟩
                  clear b8
                  refine hK _ _ (fun _ => hS) ?_
                  clear hK
                  (try simp only [Act.put, List.setIfInBounds_toArray, List.set_cons_zero, List.set_cons_succ])
                  refine take0 (i := 4) (oi := _) (v := ?_) rfl (by kernel_rfl) (by kernel_rfl) (by kernel_rfl) (fun _ _ _ h => h) rfl (Or.inl ⟨by rfl, ?_⟩) (fun _ => hS) ?_
                  rotate_left
                  · intro w0; go_simp; with_reducible rfl
                  (try simp only [Act.put, List.setIfInBounds_toArray, List.set_cons_zero, List.set_cons_succ])
                  refine take0 (i := 5) (oi := _) (v := ?_) rfl (by kernel_rfl) (by kernel_rfl) (by kernel_rfl) (fun _ _ _ h => h) rfl (Or.inl ⟨by rfl, ?_⟩) (fun _ => hS) ?_
                  rotate_left
                  · intro w0; go_simp; with_reducible rfl
                  (try simp only [Act.put, List.setIfInBounds_toArray, List.set_cons_zero, List.set_cons_succ])
                  refine take0 (i := 6) (oi := _) (v := ?_) rfl (by kernel_rfl) (by kernel_rfl) (by kernel_rfl) (fun _ _ _ h => h) rfl (Or.inl ⟨by rfl, ?_⟩) (fun _ => hS) ?_
                  rotate_left
                  · intro w0; go_simp; with_reducible rfl
                  (try simp only [Act.put, List.setIfInBounds_toArray, List.set_cons_zero, List.set_cons_succ])
                  refine oneT (i := 8) (by kernel_rfl) rfl (by rfl) (fun K hK => ?_)
                  go_simp
                  obtain ⟨v9_, h9⟩ : ∃ z : World, z = v8_.alloc (.cells #[.int .i64 0, .int .i64 0] 28) := ⟨_, rfl⟩
                  have b9 : Below v8_.heap.size v8_ v9_ := by rw [h9]; exact below_new _ _
                  have KB9 : Hid (Blk v9_ v8_.heap.size 28 #[.int .i64 0, .int .i64 0]) := by rw [h9]; exact Blk.new _ _ _
                  rw [← h9]
                  obtain ⟨bB, hbB⟩ : ∃ z : Nat, v8_.heap.size = z := ⟨_, rfl⟩
                  have hg9 : wz.heap.size ≤ bB := by rw [← hbB]; exact HZ8.out.size
                  rw [hbB] at KB9 ⊢
                  have hne : bA ≠ bB := by have := KA8.out.lt; omega
                  have KA9 := Lib.hid (KA8.out.keep b9)
                  have HZ9 := Lib.hid (below_next HZ8.out b9)
                  have hS : v9_.cell? ⟨w.heap.size, 0, none⟩ = some (.int .i64 5) ∧ v9_.cell? ⟨w.heap.size, 1, none⟩ = some (.slice C nC cC) := ⟨keepBox HZ9.out kz0, keepBox HZ9.out kz1⟩
                  clear h9 hbB
                  clear b9
                  refine hK _ _ (fun _ => hS) ?_
                  clear hK
                  (try simp only [Act.put, List.setIfInBounds_toArray, List.set_cons_zero, List.set_cons_succ])
                  refine oneT (i := 9) (by kernel_rfl) rfl (by rfl) (fun K hK => ?_)
                  have e0 := KA9.out.cell 0
                  have e1 := KA9.out.cell 1
                  have e2 := KA9.out.cell 2
                  have e3 := KA9.out.cell 3
                  have e4 := KA9.out.cell 4
                  have f0 := KA9.out.frozen 0
                  have f1 := KA9.out.frozen 1
                  have f2 := KA9.out.frozen 2
                  have f3 := KA9.out.frozen 3
                  have f4 := KA9.out.frozen 4
                  simp at e0 e1 e2 e3 e4
                  have le := KA9.out.lt
                  have pp := put5 KA9.out KB9.out hne HZ9.out hg7 (.int .i64 1) (.slice hb9 hn9 hc9) (.slice S9 ns9 cs9) (.slice K9 nk9 ck9) (.int .i64 used9)
                  go_simp
                  clear e0 e1 e2 e3 e4 f0 f1 f2 f3 f4 le
                  refine hK _ _ (noT_no (by kernel_rfl)) ?_
                  clear hK
                  (try simp only [Act.put, List.setIfInBounds_toArray, List.set_cons_zero, List.set_cons_succ])
                  obtain ⟨v5, hv5⟩ : ∃ z : World, z = (((((v9_.setCell ⟨bA, 0, none⟩ (.int .i64 1)).setCell ⟨bA, 1, none⟩ (.slice hb9 hn9 hc9)).setCell ⟨bA, 2, none⟩ (.slice S9 ns9 cs9)).setCell ⟨bA, 3, none⟩ (.slice K9 nk9 ck9)).setCell ⟨bA, 4, none⟩ (.int .i64 used9)) := ⟨_, rfl⟩
                  obtain ⟨p1, p2, p3⟩ := pp
                  rw [← hv5] at p1 p2 p3 ⊢
                  have P1 := Lib.hid p1
                  have P2 := Lib.hid p2
                  have P3 := Lib.hid p3
                  clear hv5 p1 p2 p3
                  refine oneT (i := 10) (by kernel_rfl) rfl (by rfl) (fun K hK => ?_)
                  have e0 := P2.out.cell 0
                  have e1 := P2.out.cell 1
                  have f0 := P2.out.frozen 0
                  have f1 := P2.out.frozen 1
                  simp at e0 e1
                  have le := P2.out.lt
                  have pq := put2_ P1.out P2.out hne P3.out hg9
                  go_simp
                  clear e0 e1 f0 f1 le
                  refine hK _ _ (noT_no (by kernel_rfl)) ?_
                  clear hK
                  (try simp only [Act.put, List.setIfInBounds_toArray, List.set_cons_zero, List.set_cons_succ])
                  obtain ⟨v6, hv6⟩ : ∃ z : World, z = ((v5.setCell ⟨bB, 0, none⟩ (.int .i64 0)).setCell ⟨bB, 1, none⟩ (.int .i64 0)) := ⟨_, rfl⟩
                  obtain ⟨p1, p2, p3⟩ := pq
                  rw [← hv6] at p1 p2 p3 ⊢
                  have Q1 := Lib.hid p1
                  have Q2 := Lib.hid p2
                  have Q3 := Lib.hid p3
                  clear hv6 p1 p2 p3 P1 P2 P3
                  refine doneT (by kernel_rfl) ?_ _
                  have c1 := keepBox Q3.out kz1
                  have zc := (cell_lt c1).1
                  have a0 := Q1.out.cell 0
                  have a4 := Q1.out.lt
                  have b0 := Q2.out.cell 0
                  have b4 := Q2.out.lt
                  simp at a0 b0
                  by_cases h40 : (40 : Int) < (nC : Int)
                  all_goals
                    go_wp2_with fail
                    go_ret
                    exact ⟨rfl, below_next HBz.out Q3.out⟩
                · go_simp
                  obtain ⟨v10_, h10⟩ : ∃ z : World, z = v7_.alloc (.cells #[.int .i64 0, .int .i64 0] 28) := ⟨_, rfl⟩
                  have b10 : Below v7_.heap.size v7_ v10_ := by rw [h10]; exact below_new _ _
                  have KB10 : Hid (Blk v10_ v7_.heap.size 28 #[.int .i64 0, .int .i64 0]) := by rw [h10]; exact Blk.new _ _ _
                  rw [← h10]
                  obtain ⟨bB, hbB⟩ : ∃ z : Nat, v7_.heap.size = z := ⟨_, rfl⟩
                  have hg10 : wz.heap.size ≤ bB := by rw [← hbB]; exact HZ7.out.size
                  rw [hbB] at KB10 ⊢
                  have hne : bA ≠ bB := by have := KA7.out.lt; omega
                  have KA10 := Lib.hid (KA7.out.keep b10)
                  have HZ10 := Lib.hid (below_next HZ7.out b10)
                  have hS : v10_.cell? ⟨w.heap.size, 0, none⟩ = some (.int .i64 5) ∧ v10_.cell? ⟨w.heap.size, 1, none⟩ = some (.slice C nC cC) := ⟨keepBox HZ10.out kz0, keepBox HZ10.out kz1⟩
                  clear h10 hbB
                  clear b10
                  refine hK _ _ (fun _ => hS) ?_
                  clear hK
                  (try simp only [Act.put, List.setIfInBounds_toArray, List.set_cons_zero, List.set_cons_succ])
                  refine oneT (i := 3) (by kernel_rfl) rfl (by rfl) (fun K hK => ?_)
                  go_simp
                  have hlw := HZ10.out.size
                  refine (cdcl_any C none nC cC 0 0 xss [] 5 v10_ (HCz.out.grid.keep HZ10.out) HNN.out (fun a ha => Nat.lt_of_lt_of_le (HLL.out a ha) hlw) ⟨Sl_nil v10_, by simp⟩ HBES.out so ro ko po hs1 hs2 hs3 hs4 2000 (Nat.le_refl _) core_none).mono ?_
                  rintro e v11_ ⟨st9, hb9, hn9, hc9, S9, ns9, cs9, K9, nk9, ck9, used9, rfl, b11, ha9⟩
                  obtain rfl : st9 = 1 := answ_par (qs := qs) HF.out (by rw [← HX.out]; exact ha9) (.inr ⟨rfl, rows, HRS.out, HPQ.out⟩)
                  clear ha9 hlw
                  have KA11 := Lib.hid (KA10.out.keep b11)
                  have KB11 := Lib.hid (KB10.out.keep b11)
                  have HZ11 := Lib.hid (below_next HZ10.out b11)
                  have hS : v11_.cell? ⟨w.heap.size, 0, none⟩ = some (.int .i64 5) ∧ v11_.cell? ⟨w.heap.size, 1, none⟩ = some (.slice C nC cC) := ⟨keepBox HZ11.out kz0, keepBox HZ11.out kz1⟩
                  clear b11
                  refine hK _ _ (fun _ => hS) ?_
                  clear hK
                  (try simp only [Act.put, List.setIfInBounds_toArray, List.set_cons_zero, List.set_cons_succ])
                  refine take0 (i := 4) (oi := _) (v := ?_) rfl (by kernel_rfl) (by kernel_rfl) (by kernel_rfl) (fun _ _ _ h => h) rfl (Or.inl ⟨by rfl, ?_⟩) (fun _ => hS) ?_
                  rotate_left
                  · intro w0; go_simp; with_reducible rfl
                  (try simp only [Act.put, List.setIfInBounds_toArray, List.set_cons_zero, List.set_cons_succ])
                  refine take0 (i := 5) (oi := _) (v := ?_) rfl (by kernel_rfl) (by kernel_rfl) (by kernel_rfl) (fun _ _ _ h => h) rfl (Or.inl ⟨by rfl, ?_⟩) (fun _ => hS) ?_
                  rotate_left
                  · intro w0; go_simp; with_reducible rfl
                  (try simp only [Act.put, List.setIfInBounds_toArray, List.set_cons_zero, List.set_cons_succ])
                  refine take0 (i := 6) (oi := _) (v := ?_) rfl (by kernel_rfl) (by kernel_rfl) (by kernel_rfl) (fun _ _ _ h => h) rfl (Or.inl ⟨by rfl, ?_⟩) (fun _ => hS) ?_
                  rotate_left
                  · intro w0; go_simp; with_reducible rfl
                  (try simp only [Act.put, List.setIfInBounds_toArray, List.set_cons_zero, List.set_cons_succ])
                  refine oneT (i := 9) (by kernel_rfl) rfl (by rfl) (fun K hK => ?_)
                  have e0 := KA11.out.cell 0
                  have e1 := KA11.out.cell 1
                  have e2 := KA11.out.cell 2
                  have e3 := KA11.out.cell 3
                  have e4 := KA11.out.cell 4
                  have f0 := KA11.out.frozen 0
                  have f1 := KA11.out.frozen 1
                  have f2 := KA11.out.frozen 2
                  have f3 := KA11.out.frozen 3
                  have f4 := KA11.out.frozen 4
                  simp at e0 e1 e2 e3 e4
                  have le := KA11.out.lt
                  have pp := put5 KA11.out KB11.out hne HZ11.out hg7 (.int .i64 1) (.slice hb9 hn9 hc9) (.slice S9 ns9 cs9) (.slice K9 nk9 ck9) (.int .i64 used9)
                  go_simp
                  clear e0 e1 e2 e3 e4 f0 f1 f2 f3 f4 le
                  refine hK _ _ (noT_no (by kernel_rfl)) ?_
                  clear hK
                  (try simp only [Act.put, List.setIfInBounds_toArray, List.set_cons_zero, List.set_cons_succ])
                  obtain ⟨v5, hv5⟩ : ∃ z : World, z = (((((v11_.setCell ⟨bA, 0, none⟩ (.int .i64 1)).setCell ⟨bA, 1, none⟩ (.slice hb9 hn9 hc9)).setCell ⟨bA, 2, none⟩ (.slice S9 ns9 cs9)).setCell ⟨bA, 3, none⟩ (.slice K9 nk9 ck9)).setCell ⟨bA, 4, none⟩ (.int .i64 used9)) := ⟨_, rfl⟩
                  obtain ⟨p1, p2, p3⟩ := pp
                  rw [← hv5] at p1 p2 p3 ⊢
                  have P1 := Lib.hid p1
                  have P2 := Lib.hid p2
                  have P3 := Lib.hid p3
                  clear hv5 p1 p2 p3
                  refine oneT (i := 10) (by kernel_rfl) rfl (by rfl) (fun K hK => ?_)
                  have e0 := P2.out.cell 0
                  have e1 := P2.out.cell 1
                  have f0 := P2.out.frozen 0
                  have f1 := P2.out.frozen 1
                  simp at e0 e1
                  have le := P2.out.lt
                  have pq := put2_ P1.out P2.out hne P3.out hg10
                  go_simp
                  clear e0 e1 f0 f1 le
                  refine hK _ _ (noT_no (by kernel_rfl)) ?_
                  clear hK
                  (try simp only [Act.put, List.setIfInBounds_toArray, List.set_cons_zero, List.set_cons_succ])
                  obtain ⟨v6, hv6⟩ : ∃ z : World, z = ((v5.setCell ⟨bB, 0, none⟩ (.int .i64 0)).setCell ⟨bB, 1, none⟩ (.int .i64 0)) := ⟨_, rfl⟩
                  obtain ⟨p1, p2, p3⟩ := pq
                  rw [← hv6] at p1 p2 p3 ⊢
                  have Q1 := Lib.hid p1
                  have Q2 := Lib.hid p2
                  have Q3 := Lib.hid p3
                  clear hv6 p1 p2 p3 P1 P2 P3
                  refine doneT (by kernel_rfl) ?_ _
                  have c1 := keepBox Q3.out kz1
                  have zc := (cell_lt c1).1
                  have a0 := Q1.out.cell 0
                  have a4 := Q1.out.lt
                  have b0 := Q2.out.cell 0
                  have b4 := Q2.out.lt
                  simp at a0 b0
                  by_cases h40 : (40 : Int) < (nC : Int)
                  all_goals
                    go_wp2_with fail
                    go_ret
                    exact ⟨rfl, below_next HBz.out Q3.out⟩
              · go_simp
                obtain ⟨v12_, h12⟩ : ∃ z : World, z = v1_.alloc (.cells #[.int .i64 0, .int .i64 0] 28) := ⟨_, rfl⟩
                have b12 : Below v1_.heap.size v1_ v12_ := by rw [h12]; exact below_new _ _
                have KB12 : Hid (Blk v12_ v1_.heap.size 28 #[.int .i64 0, .int .i64 0]) := by rw [h12]; exact Blk.new _ _ _
                rw [← h12]
                obtain ⟨bB, hbB⟩ : ∃ z : Nat, v1_.heap.size = z := ⟨_, rfl⟩
                have hg12 : wz.heap.size ≤ bB := by rw [← hbB]; exact HZ1.out.size
                rw [hbB] at KB12 ⊢
                have HZ12 := Lib.hid (below_next HZ1.out b12)
                have hS : v12_.cell? ⟨w.heap.size, 0, none⟩ = some (.int .i64 5) ∧ v12_.cell? ⟨w.heap.size, 1, none⟩ = some (.slice C nC cC) := ⟨keepBox HZ12.out kz0, keepBox HZ12.out kz1⟩
                clear h12 hbB
                clear b12
                refine hK _ _ (fun _ => hS) ?_
                clear hK
                (try simp only [Act.put, List.setIfInBounds_toArray, List.set_cons_zero, List.set_cons_succ])
                refine twoT (i := 3) (j := 7) (by kernel_rfl) rfl (by rfl) rfl (by rfl) (fun K hK => ?_) (fun K hK => ?_)
                · go_simp
                  have hlw := HZ12.out.size
                  refine (cdcl_any C none nC cC 0 0 xss [] 5 v12_ (HCz.out.grid.keep HZ12.out) HNN.out (fun a ha => Nat.lt_of_lt_of_le (HLL.out a ha) hlw) ⟨Sl_nil v12_, by simp⟩ HBES.out so ro ko po hs1 hs2 hs3 hs4 2000 (Nat.le_refl _) core_none).mono ?_
                  rintro e v13_ ⟨st9, hb9, hn9, hc9, S9, ns9, cs9, K9, nk9, ck9, used9, rfl, b13, ha9⟩
                  obtain rfl : st9 = 1 := answ_par (qs := qs) HF.out (by rw [← HX.out]; exact ha9) (.inr ⟨rfl, rows, HRS.out, HPQ.out⟩)
                  clear ha9 hlw
                  have KB13 := Lib.hid (KB12.out.keep b13)
                  have HZ13 := Lib.hid (below_next HZ12.out b13)
                  have hS : v13_.cell? ⟨w.heap.size, 0, none⟩ = some (.int .i64 5) ∧ v13_.cell? ⟨w.heap.size, 1, none⟩ = some (.slice C nC cC) := ⟨keepBox HZ13.out kz0, keepBox HZ13.out kz1⟩
                  clear b13
                  refine hK _ _ (fun _ => hS) ?_
                  clear hK
                  (try simp only [Act.put, List.setIfInBounds_toArray, List.set_cons_zero, List.set_cons_succ])
                  refine take0 (i := 4) (oi := _) (v := ?_) rfl (by kernel_rfl) (by kernel_rfl) (by kernel_rfl) (fun _ _ _ h => h) rfl (Or.inl ⟨by rfl, ?_⟩) (fun _ => hS) ?_
                  rotate_left
                  · intro w0; go_simp; with_reducible rfl
                  (try simp only [Act.put, List.setIfInBounds_toArray, List.set_cons_zero, List.set_cons_succ])
                  refine take0 (i := 5) (oi := _) (v := ?_) rfl (by kernel_rfl) (by kernel_rfl) (by kernel_rfl) (fun _ _ _ h => h) rfl (Or.inl ⟨by rfl, ?_⟩) (fun _ => hS) ?_
                  rotate_left
                  · intro w0; go_simp; with_reducible rfl
                  (try simp only [Act.put, List.setIfInBounds_toArray, List.set_cons_zero, List.set_cons_succ])
                  refine take0 (i := 6) (oi := _) (v := ?_) rfl (by kernel_rfl) (by kernel_rfl) (by kernel_rfl) (fun _ _ _ h => h) rfl (Or.inl ⟨by rfl, ?_⟩) (fun _ => hS) ?_
                  rotate_left
                  · intro w0; go_simp; with_reducible rfl
                  (try simp only [Act.put, List.setIfInBounds_toArray, List.set_cons_zero, List.set_cons_succ])
                  refine oneT (i := 7) (by kernel_rfl) rfl (by rfl) (fun K hK => ?_)
                  go_simp
                  obtain ⟨v14_, h14⟩ : ∃ z : World, z = v13_.alloc (.cells #[.int .i64 0, .slice none 0 0, .slice none 0 0, .slice none 0 0, .int .i64 0] 46) := ⟨_, rfl⟩
                  have b14 : Below v13_.heap.size v13_ v14_ := by rw [h14]; exact below_new _ _
                  have KA14 : Hid (Blk v14_ v13_.heap.size 46 #[.int .i64 0, .slice none 0 0, .slice none 0 0, .slice none 0 0, .int .i64 0]) := by rw [h14]; exact Blk.new _ _ _
                  rw [← h14]
                  obtain ⟨bA, hbA⟩ : ∃ z : Nat, v13_.heap.size = z := ⟨_, rfl⟩
                  have hg14 : wz.heap.size ≤ bA := by rw [← hbA]; exact HZ13.out.size
                  rw [hbA] at KA14 ⊢
                  have hne : bA ≠ bB := by have := KB13.out.lt; omega
                  have KB14 := Lib.hid (KB13.out.keep b14)
                  have HZ14 := Lib.hid (below_next HZ13.out b14)
                  have hS : v14_.cell? ⟨w.heap.size, 0, none⟩ = some (.int .i64 5) ∧ v14_.cell? ⟨w.heap.size, 1, none⟩ = some (.slice C nC cC) := ⟨keepBox HZ14.out kz0, keepBox HZ14.out kz1⟩
                  clear h14 hbA
                  clear b14
                  refine hK _ _ (fun _ => hS) ?_
                  clear hK
                  (try simp only [Act.put, List.setIfInBounds_toArray, List.set_cons_zero, List.set_cons_succ])
                  refine oneT (i := 9) (by kernel_rfl) rfl (by rfl) (fun K hK => ?_)
                  have e0 := KA14.out.cell 0
                  have e1 := KA14.out.cell 1
                  have e2 := KA14.out.cell 2
                  have e3 := KA14.out.cell 3
                  have e4 := KA14.out.cell 4
                  have f0 := KA14.out.frozen 0
                  have f1 := KA14.out.frozen 1
                  have f2 := KA14.out.frozen 2
                  have f3 := KA14.out.frozen 3
                  have f4 := KA14.out.frozen 4
                  simp at e0 e1 e2 e3 e4
                  have le := KA14.out.lt
                  have pp := put5 KA14.out KB14.out hne HZ14.out hg14 (.int .i64 1) (.slice hb9 hn9 hc9) (.slice S9 ns9 cs9) (.slice K9 nk9 ck9) (.int .i64 used9)
                  go_simp
                  clear e0 e1 e2 e3 e4 f0 f1 f2 f3 f4 le
                  refine hK _ _ (noT_no (by kernel_rfl)) ?_
                  clear hK
                  (try simp only [Act.put, List.setIfInBounds_toArray, List.set_cons_zero, List.set_cons_succ])
                  obtain ⟨v5, hv5⟩ : ∃ z : World, z = (((((v14_.setCell ⟨bA, 0, none⟩ (.int .i64 1)).setCell ⟨bA, 1, none⟩ (.slice hb9 hn9 hc9)).setCell ⟨bA, 2, none⟩ (.slice S9 ns9 cs9)).setCell ⟨bA, 3, none⟩ (.slice K9 nk9 ck9)).setCell ⟨bA, 4, none⟩ (.int .i64 used9)) := ⟨_, rfl⟩
                  obtain ⟨p1, p2, p3⟩ := pp
                  rw [← hv5] at p1 p2 p3 ⊢
                  have P1 := Lib.hid p1
                  have P2 := Lib.hid p2
                  have P3 := Lib.hid p3
                  clear hv5 p1 p2 p3
                  refine oneT (i := 10) (by kernel_rfl) rfl (by rfl) (fun K hK => ?_)
                  have e0 := P2.out.cell 0
                  have e1 := P2.out.cell 1
                  have f0 := P2.out.frozen 0
                  have f1 := P2.out.frozen 1
                  simp at e0 e1
                  have le := P2.out.lt
                  have pq := put2_ P1.out P2.out hne P3.out hg12
                  go_simp
                  clear e0 e1 f0 f1 le
                  refine hK _ _ (noT_no (by kernel_rfl)) ?_
                  clear hK
                  (try simp only [Act.put, List.setIfInBounds_toArray, List.set_cons_zero, List.set_cons_succ])
                  obtain ⟨v6, hv6⟩ : ∃ z : World, z = ((v5.setCell ⟨bB, 0, none⟩ (.int .i64 0)).setCell ⟨bB, 1, none⟩ (.int .i64 0)) := ⟨_, rfl⟩
                  obtain ⟨p1, p2, p3⟩ := pq
                  rw [← hv6] at p1 p2 p3 ⊢
                  have Q1 := Lib.hid p1
                  have Q2 := Lib.hid p2
                  have Q3 := Lib.hid p3
                  clear hv6 p1 p2 p3 P1 P2 P3
                  refine doneT (by kernel_rfl) ?_ _
                  have c1 := keepBox Q3.out kz1
                  have zc := (cell_lt c1).1
                  have a0 := Q1.out.cell 0
                  have a4 := Q1.out.lt
                  have b0 := Q2.out.cell 0
                  have b4 := Q2.out.lt
                  simp at a0 b0
                  by_cases h40 : (40 : Int) < (nC : Int)
                  all_goals
                    go_wp2_with fail
                    go_ret
                    exact ⟨rfl, below_next HBz.out Q3.out⟩
                · go_simp
                  obtain ⟨v15_, h15⟩ : ∃ z : World, z = v12_.alloc (.cells #[.int .i64 0, .slice none 0 0, .slice none 0 0, .slice none 0 0, .int .i64 0] 46) := ⟨_, rfl⟩
                  have b15 : Below v12_.heap.size v12_ v15_ := by rw [h15]; exact below_new _ _
                  have KA15 : Hid (Blk v15_ v12_.heap.size 46 #[.int .i64 0, .slice none 0 0, .slice none 0 0, .slice none 0 0, .int .i64 0]) := by rw [h15]; exact Blk.new _ _ _
                  rw [← h15]
                  obtain ⟨bA, hbA⟩ : ∃ z : Nat, v12_.heap.size = z := ⟨_, rfl⟩
                  have hg15 : wz.heap.size ≤ bA := by rw [← hbA]; exact HZ12.out.size
                  rw [hbA] at KA15 ⊢
                  have hne : bA ≠ bB := by have := KB12.out.lt; omega
                  have KB15 := Lib.hid (KB12.out.keep b15)
                  have HZ15 := Lib.hid (below_next HZ12.out b15)
                  have hS : v15_.cell? ⟨w.heap.size, 0, none⟩ = some (.int .i64 5) ∧ v15_.cell? ⟨w.heap.size, 1, none⟩ = some (.slice C nC cC) := ⟨keepBox HZ15.out kz0, keepBox HZ15.out kz1⟩
                  clear h15 hbA
                  clear b15
                  refine hK _ _ (fun _ => hS) ?_
                  clear hK
                  (try simp only [Act.put, List.setIfInBounds_toArray, List.set_cons_zero, List.set_cons_succ])
                  refine oneT (i := 3) (by kernel_rfl) rfl (by rfl) (fun K hK => ?_)
                  go_simp
                  have hlw := HZ15.out.size
                  refine (cdcl_any C none nC cC 0 0 xss [] 5 v15_ (HCz.out.grid.keep HZ15.out) HNN.out (fun a ha => Nat.lt_of_lt_of_le (HLL.out a ha) hlw) ⟨Sl_nil v15_, by simp⟩ HBES.out so ro ko po hs1 hs2 hs3 hs4 2000 (Nat.le_refl _) core_none).mono ?_
                  rintro e v16_ ⟨st9, hb9, hn9, hc9, S9, ns9, cs9, K9, nk9, ck9, used9, rfl, b16, ha9⟩
                  obtain rfl : st9 = 1 := answ_par (qs := qs) HF.out (by rw [← HX.out]; exact ha9) (.inr ⟨rfl, rows, HRS.out, HPQ.out⟩)
                  clear ha9 hlw
                  have KA16 := Lib.hid (KA15.out.keep b16)
                  have KB16 := Lib.hid (KB15.out.keep b16)
                  have HZ16 := Lib.hid (below_next HZ15.out b16)
                  have hS : v16_.cell? ⟨w.heap.size, 0, none⟩ = some (.int .i64 5) ∧ v16_.cell? ⟨w.heap.size, 1, none⟩ = some (.slice C nC cC) := ⟨keepBox HZ16.out kz0, keepBox HZ16.out kz1⟩
                  clear b16
                  refine hK _ _ (fun _ => hS) ?_
                  clear hK
                  (try simp only [Act.put, List.setIfInBounds_toArray, List.set_cons_zero, List.set_cons_succ])
                  refine take0 (i := 4) (oi := _) (v := ?_) rfl (by kernel_rfl) (by kernel_rfl) (by kernel_rfl) (fun _ _ _ h => h) rfl (Or.inl ⟨by rfl, ?_⟩) (fun _ => hS) ?_
                  rotate_left
                  · intro w0; go_simp; with_reducible rfl
                  (try simp only [Act.put, List.setIfInBounds_toArray, List.set_cons_zero, List.set_cons_succ])
                  refine take0 (i := 5) (oi := _) (v := ?_) rfl (by kernel_rfl) (by kernel_rfl) (by kernel_rfl) (fun _ _ _ h => h) rfl (Or.inl ⟨by rfl, ?_⟩) (fun _ => hS) ?_
                  rotate_left
                  · intro w0; go_simp; with_reducible rfl
                  (try simp only [Act.put, List.setIfInBounds_toArray, List.set_cons_zero, List.set_cons_succ])
                  refine take0 (i := 6) (oi := _) (v := ?_) rfl (by kernel_rfl) (by kernel_rfl) (by kernel_rfl) (fun _ _ _ h => h) rfl (Or.inl ⟨by rfl, ?_⟩) (fun _ => hS) ?_
                  rotate_left
                  · intro w0; go_simp; with_reducible rfl
                  (try simp only [Act.put, List.setIfInBounds_toArray, List.set_cons_zero, List.set_cons_succ])
                  refine oneT (i := 9) (by kernel_rfl) rfl (by rfl) (fun K hK => ?_)
                  have e0 := KA16.out.cell 0
                  have e1 := KA16.out.cell 1
                  have e2 := KA16.out.cell 2
                  have e3 := KA16.out.cell 3
                  have e4 := KA16.out.cell 4
                  have f0 := KA16.out.frozen 0
                  have f1 := KA16.out.frozen 1
                  have f2 := KA16.out.frozen 2
                  have f3 := KA16.out.frozen 3
                  have f4 := KA16.out.frozen 4
                  simp at e0 e1 e2 e3 e4
                  have le := KA16.out.lt
                  have pp := put5 KA16.out KB16.out hne HZ16.out hg15 (.int .i64 1) (.slice hb9 hn9 hc9) (.slice S9 ns9 cs9) (.slice K9 nk9 ck9) (.int .i64 used9)
                  go_simp
                  clear e0 e1 e2 e3 e4 f0 f1 f2 f3 f4 le
                  refine hK _ _ (noT_no (by kernel_rfl)) ?_
                  clear hK
                  (try simp only [Act.put, List.setIfInBounds_toArray, List.set_cons_zero, List.set_cons_succ])
                  obtain ⟨v5, hv5⟩ : ∃ z : World, z = (((((v16_.setCell ⟨bA, 0, none⟩ (.int .i64 1)).setCell ⟨bA, 1, none⟩ (.slice hb9 hn9 hc9)).setCell ⟨bA, 2, none⟩ (.slice S9 ns9 cs9)).setCell ⟨bA, 3, none⟩ (.slice K9 nk9 ck9)).setCell ⟨bA, 4, none⟩ (.int .i64 used9)) := ⟨_, rfl⟩
                  obtain ⟨p1, p2, p3⟩ := pp
                  rw [← hv5] at p1 p2 p3 ⊢
                  have P1 := Lib.hid p1
                  have P2 := Lib.hid p2
                  have P3 := Lib.hid p3
                  clear hv5 p1 p2 p3
                  refine oneT (i := 10) (by kernel_rfl) rfl (by rfl) (fun K hK => ?_)
                  have e0 := P2.out.cell 0
                  have e1 := P2.out.cell 1
                  have f0 := P2.out.frozen 0
                  have f1 := P2.out.frozen 1
                  simp at e0 e1
                  have le := P2.out.lt
                  have pq := put2_ P1.out P2.out hne P3.out hg12
                  go_simp
                  clear e0 e1 f0 f1 le
                  refine hK _ _ (noT_no (by kernel_rfl)) ?_
                  clear hK
                  (try simp only [Act.put, List.setIfInBounds_toArray, List.set_cons_zero, List.set_cons_succ])
                  obtain ⟨v6, hv6⟩ : ∃ z : World, z = ((v5.setCell ⟨bB, 0, none⟩ (.int .i64 0)).setCell ⟨bB, 1, none⟩ (.int .i64 0)) := ⟨_, rfl⟩
                  obtain ⟨p1, p2, p3⟩ := pq
                  rw [← hv6] at p1 p2 p3 ⊢
                  have Q1 := Lib.hid p1
                  have Q2 := Lib.hid p2
                  have Q3 := Lib.hid p3
                  clear hv6 p1 p2 p3 P1 P2 P3
                  refine doneT (by kernel_rfl) ?_ _
                  have c1 := keepBox Q3.out kz1
                  have zc := (cell_lt c1).1
                  have a0 := Q1.out.cell 0
                  have a4 := Q1.out.lt
                  have b0 := Q2.out.cell 0
                  have b4 := Q2.out.lt
                  simp at a0 b0
                  by_cases h40 : (40 : Int) < (nC : Int)
                  all_goals
                    go_wp2_with fail
                    go_ret
                    exact ⟨rfl, below_next HBz.out Q3.out⟩
            · go_simp
              obtain ⟨v17_, h17⟩ : ∃ z : World, z = wz.alloc (.cells #[.int .i64 0, .slice none 0 0, .slice none 0 0, .slice none 0 0, .int .i64 0] 46) := ⟨_, rfl⟩
              have b17 : Below wz.heap.size wz v17_ := by rw [h17]; exact below_new _ _
              have KA17 : Hid (Blk v17_ wz.heap.size 46 #[.int .i64 0, .slice none 0 0, .slice none 0 0, .slice none 0 0, .int .i64 0]) := by rw [h17]; exact Blk.new _ _ _
              rw [← h17]
              obtain ⟨bA, hbA⟩ : ∃ z : Nat, wz.heap.size = z := ⟨_, rfl⟩
              have hg17 : wz.heap.size ≤ bA := by rw [← hbA]; exact HZ0.out.size
              rw [hbA] at KA17 ⊢
              have HZ17 := Lib.hid (below_next HZ0.out b17)
              have hS : v17_.cell? ⟨w.heap.size, 0, none⟩ = some (.int .i64 5) ∧ v17_.cell? ⟨w.heap.size, 1, none⟩ = some (.slice C nC cC) := ⟨keepBox HZ17.out kz0, keepBox HZ17.out kz1⟩
              clear h17 hbA
              clear b17
              refine hK _ _ (fun _ => hS) ?_
              clear hK
              (try simp only [Act.put, List.setIfInBounds_toArray, List.set_cons_zero, List.set_cons_succ])
              refine twoT (i := 2) (j := 8) (by kernel_rfl) rfl (by rfl) rfl (by rfl) (fun K hK => ?_) (fun K hK => ?_)
              · go_simp
                refine (optionsOf_any o v17_ HOP.out).mono ?_
                rintro e v18_ ⟨so, ro, ko, po, rfl, hs1, hs2, hs3, hs4, b18⟩
                have KA18 := Lib.hid (KA17.out.keep b18)
                have HZ18 := Lib.hid (below_next HZ17.out b18)
                have hS : v18_.cell? ⟨w.heap.size, 0, none⟩ = some (.int .i64 5) ∧ v18_.cell? ⟨w.heap.size, 1, none⟩ = some (.slice C nC cC) := ⟨keepBox HZ18.out kz0, keepBox HZ18.out kz1⟩
                clear b18
                refine hK _ _ (fun _ => hS) ?_
                clear hK
                (try simp only [Act.put, List.setIfInBounds_toArray, List.set_cons_zero, List.set_cons_succ])
                refine twoT (i := 3) (j := 8) (by kernel_rfl) rfl (by rfl) rfl (by rfl) (fun K hK => ?_) (fun K hK => ?_)
                · go_simp
                  have hlw := HZ18.out.size
                  refine (cdcl_any C none nC cC 0 0 xss [] 5 v18_ (HCz.out.grid.keep HZ18.out) HNN.out (fun a ha => Nat.lt_of_lt_of_le (HLL.out a ha) hlw) ⟨Sl_nil v18_, by simp⟩ HBES.out so ro ko po hs1 hs2 hs3 hs4 2000 (Nat.le_refl _) core_none).mono ?_
                  rintro e v19_ ⟨st9, hb9, hn9, hc9, S9, ns9, cs9, K9, nk9, ck9, used9, rfl, b19, ha9⟩
                  obtain rfl : st9 = 1 := answ_par (qs := qs) HF.out (by rw [← HX.out]; exact ha9) (.inr ⟨rfl, rows, HRS.out, HPQ.out⟩)
                  clear ha9 hlw
                  have KA19 := Lib.hid (KA18.out.keep b19)
                  have HZ19 := Lib.hid (below_next HZ18.out b19)
                  have hS : v19_.cell? ⟨w.heap.size, 0, none⟩ = some (.int .i64 5) ∧ v19_.cell? ⟨w.heap.size, 1, none⟩ = some (.slice C nC cC) := ⟨keepBox HZ19.out kz0, keepBox HZ19.out kz1⟩
                  clear b19
                  refine hK _ _ (fun _ => hS) ?_
                  clear hK
                  (try simp only [Act.put, List.setIfInBounds_toArray, List.set_cons_zero, List.set_cons_succ])
                  refine take0 (i := 4) (oi := _) (v := ?_) rfl (by kernel_rfl) (by kernel_rfl) (by kernel_rfl) (fun _ _ _ h => h) rfl (Or.inl ⟨by rfl, ?_⟩) (fun _ => hS) ?_
                  rotate_left
                  · intro w0; go_simp; with_reducible rfl
                  (try simp only [Act.put, List.setIfInBounds_toArray, List.set_cons_zero, List.set_cons_succ])
                  refine take0 (i := 5) (oi := _) (v := ?_) rfl (by kernel_rfl) (by kernel_rfl) (by kernel_rfl) (fun _ _ _ h => h) rfl (Or.inl ⟨by rfl, ?_⟩) (fun _ => hS) ?_
                  rotate_left
                  · intro w0; go_simp; with_reducible rfl
                  (try simp only [Act.put, List.setIfInBounds_toArray, List.set_cons_zero, List.set_cons_succ])
                  refine take0 (i := 6) (oi := _) (v := ?_) rfl (by kernel_rfl) (by kernel_rfl) (by kernel_rfl) (fun _ _ _ h => h) rfl (Or.inl ⟨by rfl, ?_⟩) (fun _ => hS) ?_
                  rotate_left
                  · intro w0; go_simp; with_reducible rfl
                  (try simp only [Act.put, List.setIfInBounds_toArray, List.set_cons_zero, List.set_cons_succ])
                  refine oneT (i := 8) (by kernel_rfl) rfl (by rfl) (fun K hK => ?_)
                  go_simp
                  obtain ⟨v20_, h20⟩ : ∃ z : World, z = v19_.alloc (.cells #[.int .i64 0, .int .i64 0] 28) := ⟨_, rfl⟩
                  have b20 : Below v19_.heap.size v19_ v20_ := by rw [h20]; exact below_new _ _
                  have KB20 : Hid (Blk v20_ v19_.heap.size 28 #[.int .i64 0, .int .i64 0]) := by rw [h20]; exact Blk.new _ _ _
                  rw [← h20]
                  obtain ⟨bB, hbB⟩ : ∃ z : Nat, v19_.heap.size = z := ⟨_, rfl⟩
                  have hg20 : wz.heap.size ≤ bB := by rw [← hbB]; exact HZ19.out.size
                  rw [hbB] at KB20 ⊢
                  have hne : bA ≠ bB := by have := KA19.out.lt; omega
                  have KA20 := Lib.hid (KA19.out.keep b20)
                  have HZ20 := Lib.hid (below_next HZ19.out b20)
                  have hS : v20_.cell? ⟨w.heap.size, 0, none⟩ = some (.int .i64 5) ∧ v20_.cell? ⟨w.heap.size, 1, none⟩ = some (.slice C nC cC) := ⟨keepBox HZ20.out kz0, keepBox HZ20.out kz1⟩
                  clear h20 hbB
                  clear b20
                  refine hK _ _ (fun _ => hS) ?_
                  clear hK
                  (try simp only [Act.put, List.setIfInBounds_toArray, List.set_cons_zero, List.set_cons_succ])
                  refine oneT (i := 9) (by kernel_rfl) rfl (by rfl) (fun K hK => ?_)
                  have e0 := KA20.out.cell 0
                  have e1 := KA20.out.cell 1
                  have e2 := KA20.out.cell 2
                  have e3 := KA20.out.cell 3
                  have e4 := KA20.out.cell 4
                  have f0 := KA20.out.frozen 0
                  have f1 := KA20.out.frozen 1
                  have f2 := KA20.out.frozen 2
                  have f3 := KA20.out.frozen 3
                  have f4 := KA20.out.frozen 4
                  simp at e0 e1 e2 e3 e4
                  have le := KA20.out.lt
                  have pp := put5 KA20.out KB20.out hne HZ20.out hg17 (.int .i64 1) (.slice hb9 hn9 hc9) (.slice S9 ns9 cs9) (.slice K9 nk9 ck9) (.int .i64 used9)
                  go_simp
                  clear e0 e1 e2 e3 e4 f0 f1 f2 f3 f4 le
                  refine hK _ _ (noT_no (by kernel_rfl)) ?_
                  clear hK
                  (try simp only [Act.put, List.setIfInBounds_toArray, List.set_cons_zero, List.set_cons_succ])
                  obtain ⟨v5, hv5⟩ : ∃ z : World, z = (((((v20_.setCell ⟨bA, 0, none⟩ (.int .i64 1)).setCell ⟨bA, 1, none⟩ (.slice hb9 hn9 hc9)).setCell ⟨bA, 2, none⟩ (.slice S9 ns9 cs9)).setCell ⟨bA, 3, none⟩ (.slice K9 nk9 ck9)).setCell ⟨bA, 4, none⟩ (.int .i64 used9)) := ⟨_, rfl⟩
                  obtain ⟨p1, p2, p3⟩ := pp
                  rw [← hv5] at p1 p2 p3 ⊢
                  have P1 := Lib.hid p1
                  have P2 := Lib.hid p2
                  have P3 := Lib.hid p3
                  clear hv5 p1 p2 p3
                  refine oneT (i := 10) (by kernel_rfl) rfl (by rfl) (fun K hK => ?_)
                  have e0 := P2.out.cell 0
                  have e1 := P2.out.cell 1
                  have f0 := P2.out.frozen 0
                  have f1 := P2.out.frozen 1
                  simp at e0 e1
                  have le := P2.out.lt
                  have pq := put2_ P1.out P2.out hne P3.out hg20
                  go_simp
                  clear e0 e1 f0 f1 le
                  refine hK _ _ (noT_no (by kernel_rfl)) ?_
                  clear hK
                  (try simp only [Act.put, List.setIfInBounds_toArray, List.set_cons_zero, List.set_cons_succ])
                  obtain ⟨v6, hv6⟩ : ∃ z : World, z = ((v5.setCell ⟨bB, 0, none⟩ (.int .i64 0)).setCell ⟨bB, 1, none⟩ (.int .i64 0)) := ⟨_, rfl⟩
                  obtain ⟨p1, p2, p3⟩ := pq
                  rw [← hv6] at p1 p2 p3 ⊢
                  have Q1 := Lib.hid p1
                  have Q2 := Lib.hid p2
                  have Q3 := Lib.hid p3
                  clear hv6 p1 p2 p3 P1 P2 P3
                  refine doneT (by kernel_rfl) ?_ _
                  have c1 := keepBox Q3.out kz1
                  have zc := (cell_lt c1).1
                  have a0 := Q1.out.cell 0
                  have a4 := Q1.out.lt
                  have b0 := Q2.out.cell 0
                  have b4 := Q2.out.lt
                  simp at a0 b0
                  by_cases h40 : (40 : Int) < (nC : Int)
                  all_goals
                    go_wp2_with fail
                    go_ret
                    exact ⟨rfl, below_next HBz.out Q3.out⟩
                · go_simp
                  obtain ⟨v21_, h21⟩ : ∃ z : World, z = v18_.alloc (.cells #[.int .i64 0, .int .i64 0] 28) := ⟨_, rfl⟩
                  have b21 : Below v18_.heap.size v18_ v21_ := by rw [h21]; exact below_new _ _
                  have KB21 : Hid (Blk v21_ v18_.heap.size 28 #[.int .i64 0, .int .i64 0]) := by rw [h21]; exact Blk.new _ _ _
                  rw [← h21]
                  obtain ⟨bB, hbB⟩ : ∃ z : Nat, v18_.heap.size = z := ⟨_, rfl⟩
                  have hg21 : wz.heap.size ≤ bB := by rw [← hbB]; exact HZ18.out.size
                  rw [hbB] at KB21 ⊢
                  have hne : bA ≠ bB := by have := KA18.out.lt; omega
                  have KA21 := Lib.hid (KA18.out.keep b21)
                  have HZ21 := Lib.hid (below_next HZ18.out b21)
                  have hS : v21_.cell? ⟨w.heap.size, 0, none⟩ = some (.int .i64 5) ∧ v21_.cell? ⟨w.heap.size, 1, none⟩ = some (.slice C nC cC) := ⟨keepBox HZ21.out kz0, keepBox HZ21.out kz1⟩
                  clear h21 hbB
                  clear b21
                  refine hK _ _ (fun _ => hS) ?_
                  clear hK
                  (try simp only [Act.put, List.setIfInBounds_toArray, List.set_cons_zero, List.set_cons_succ])
                  refine oneT (i := 3) (by kernel_rfl) rfl (by rfl) (fun K hK => ?_)
                  go_simp
                  have hlw := HZ21.out.size
                  refine (cdcl_any C none nC cC 0 0 xss [] 5 v21_ (HCz.out.grid.keep HZ21.out) HNN.out (fun a ha => Nat.lt_of_lt_of_le (HLL.out a ha) hlw) ⟨Sl_nil v21_, by simp⟩ HBES.out so ro ko po hs1 hs2 hs3 hs4 2000 (Nat.le_refl _) core_none).mono ?_
                  rintro e v22_ ⟨st9, hb9, hn9, hc9, S9, ns9, cs9, K9, nk9, ck9, used9, rfl, b22, ha9⟩
                  obtain rfl : st9 = 1 := answ_par (qs := qs) HF.out (by rw [← HX.out]; exact ha9) (.inr ⟨rfl, rows, HRS.out, HPQ.out⟩)
                  clear ha9 hlw
                  have KA22 := Lib.hid (KA21.out.keep b22)
                  have KB22 := Lib.hid (KB21.out.keep b22)
                  have HZ22 := Lib.hid (below_next HZ21.out b22)
                  have hS : v22_.cell? ⟨w.heap.size, 0, none⟩ = some (.int .i64 5) ∧ v22_.cell? ⟨w.heap.size, 1, none⟩ = some (.slice C nC cC) := ⟨keepBox HZ22.out kz0, keepBox HZ22.out kz1⟩
                  clear b22
                  refine hK _ _ (fun _ => hS) ?_
                  clear hK
                  (try simp only [Act.put, List.setIfInBounds_toArray, List.set_cons_zero, List.set_cons_succ])
                  refine take0 (i := 4) (oi := _) (v := ?_) rfl (by kernel_rfl) (by kernel_rfl) (by kernel_rfl) (fun _ _ _ h => h) rfl (Or.inl ⟨by rfl, ?_⟩) (fun _ => hS) ?_
                  rotate_left
                  · intro w0; go_simp; with_reducible rfl
                  (try simp only [Act.put, List.setIfInBounds_toArray, List.set_cons_zero, List.set_cons_succ])
                  refine take0 (i := 5) (oi := _) (v := ?_) rfl (by kernel_rfl) (by kernel_rfl) (by kernel_rfl) (fun _ _ _ h => h) rfl (Or.inl ⟨by rfl, ?_⟩) (fun _ => hS) ?_
                  rotate_left
                  · intro w0; go_simp; with_reducible rfl
                  (try simp only [Act.put, List.setIfInBounds_toArray, List.set_cons_zero, List.set_cons_succ])
                  refine take0 (i := 6) (oi := _) (v := ?_) rfl (by kernel_rfl) (by kernel_rfl) (by kernel_rfl) (fun _ _ _ h => h) rfl (Or.inl ⟨by rfl, ?_⟩) (fun _ => hS) ?_
                  rotate_left
                  · intro w0; go_simp; with_reducible rfl
                  (try simp only [Act.put, List.setIfInBounds_toArray, List.set_cons_zero, List.set_cons_succ])
                  refine oneT (i := 9) (by kernel_rfl) rfl (by rfl) (fun K hK => ?_)
                  have e0 := KA22.out.cell 0
                  have e1 := KA22.out.cell 1
                  have e2 := KA22.out.cell 2
                  have e3 := KA22.out.cell 3
                  have e4 := KA22.out.cell 4
                  have f0 := KA22.out.frozen 0
                  have f1 := KA22.out.frozen 1
                  have f2 := KA22.out.frozen 2
                  have f3 := KA22.out.frozen 3
                  have f4 := KA22.out.frozen 4
                  simp at e0 e1 e2 e3 e4
                  have le := KA22.out.lt
                  have pp := put5 KA22.out KB22.out hne HZ22.out hg17 (.int .i64 1) (.slice hb9 hn9 hc9) (.slice S9 ns9 cs9) (.slice K9 nk9 ck9) (.int .i64 used9)
                  go_simp
                  clear e0 e1 e2 e3 e4 f0 f1 f2 f3 f4 le
                  refine hK _ _ (noT_no (by kernel_rfl)) ?_
                  clear hK
                  (try simp only [Act.put, List.setIfInBounds_toArray, List.set_cons_zero, List.set_cons_succ])
                  obtain ⟨v5, hv5⟩ : ∃ z : World, z = (((((v22_.setCell ⟨bA, 0, none⟩ (.int .i64 1)).setCell ⟨bA, 1, none⟩ (.slice hb9 hn9 hc9)).setCell ⟨bA, 2, none⟩ (.slice S9 ns9 cs9)).setCell ⟨bA, 3, none⟩ (.slice K9 nk9 ck9)).setCell ⟨bA, 4, none⟩ (.int .i64 used9)) := ⟨_, rfl⟩
                  obtain ⟨p1, p2, p3⟩ := pp
                  rw [← hv5] at p1 p2 p3 ⊢
                  have P1 := Lib.hid p1
                  have P2 := Lib.hid p2
                  have P3 := Lib.hid p3
                  clear hv5 p1 p2 p3
                  refine oneT (i := 10) (by kernel_rfl) rfl (by rfl) (fun K hK => ?_)
                  have e0 := P2.out.cell 0
                  have e1 := P2.out.cell 1
                  have f0 := P2.out.frozen 0
                  have f1 := P2.out.frozen 1
                  simp at e0 e1
                  have le := P2.out.lt
                  have pq := put2_ P1.out P2.out hne P3.out hg21
                  go_simp
                  clear e0 e1 f0 f1 le
                  refine hK _ _ (noT_no (by kernel_rfl)) ?_
                  clear hK
                  (try simp only [Act.put, List.setIfInBounds_toArray, List.set_cons_zero, List.set_cons_succ])
                  obtain ⟨v6, hv6⟩ : ∃ z : World, z = ((v5.setCell ⟨bB, 0, none⟩ (.int .i64 0)).setCell ⟨bB, 1, none⟩ (.int .i64 0)) := ⟨_, rfl⟩
                  obtain ⟨p1, p2, p3⟩ := pq
                  rw [← hv6] at p1 p2 p3 ⊢
                  have Q1 := Lib.hid p1
                  have Q2 := Lib.hid p2
                  have Q3 := Lib.hid p3
                  clear hv6 p1 p2 p3 P1 P2 P3
                  refine doneT (by kernel_rfl) ?_ _
                  have c1 := keepBox Q3.out kz1
                  have zc := (cell_lt c1).1
                  have a0 := Q1.out.cell 0
                  have a4 := Q1.out.lt
                  have b0 := Q2.out.cell 0
                  have b4 := Q2.out.lt
                  simp at a0 b0
                  by_cases h40 : (40 : Int) < (nC : Int)
                  all_goals
                    go_wp2_with fail
                    go_ret
                    exact ⟨rfl, below_next HBz.out Q3.out⟩
              · go_simp
                obtain ⟨v23_, h23⟩ : ∃ z : World, z = v17_.alloc (.cells #[.int .i64 0, .int .i64 0] 28) := ⟨_, rfl⟩
                have b23 : Below v17_.heap.size v17_ v23_ := by rw [h23]; exact below_new _ _
                have KB23 : Hid (Blk v23_ v17_.heap.size 28 #[.int .i64 0, .int .i64 0]) := by rw [h23]; exact Blk.new _ _ _
                rw [← h23]
                obtain ⟨bB, hbB⟩ : ∃ z : Nat, v17_.heap.size = z := ⟨_, rfl⟩
                have hg23 : wz.heap.size ≤ bB := by rw [← hbB]; exact HZ17.out.size
                rw [hbB] at KB23 ⊢
                have hne : bA ≠ bB := by have := KA17.out.lt; omega
                have KA23 := Lib.hid (KA17.out.keep b23)
                have HZ23 := Lib.hid (below_next HZ17.out b23)
                have hS : v23_.cell? ⟨w.heap.size, 0, none⟩ = some (.int .i64 5) ∧ v23_.cell? ⟨w.heap.size, 1, none⟩ = some (.slice C nC cC) := ⟨keepBox HZ23.out kz0, keepBox HZ23.out kz1⟩
                clear h23 hbB
                clear b23
                refine hK _ _ (fun _ => hS) ?_
                clear hK
                (try simp only [Act.put, List.setIfInBounds_toArray, List.set_cons_zero, List.set_cons_succ])
                refine oneT (i := 2) (by kernel_rfl) rfl (by rfl) (fun K hK => ?_)
                go_simp
                refine (optionsOf_any o v23_ HOP.out).mono ?_
                rintro e v24_ ⟨so, ro, ko, po, rfl, hs1, hs2, hs3, hs4, b24⟩
                have KA24 := Lib.hid (KA23.out.keep b24)
                have KB24 := Lib.hid (KB23.out.keep b24)
                have HZ24 := Lib.hid (below_next HZ23.out b24)
                have hS : v24_.cell? ⟨w.heap.size, 0, none⟩ = some (.int .i64 5) ∧ v24_.cell? ⟨w.heap.size, 1, none⟩ = some (.slice C nC cC) := ⟨keepBox HZ24.out kz0, keepBox HZ24.out kz1⟩
                clear b24
                refine hK _ _ (fun _ => hS) ?_
                clear hK
                (try simp only [Act.put, List.setIfInBounds_toArray, List.set_cons_zero, List.set_cons_succ])
                refine oneT (i := 3) (by kernel_rfl) rfl (by rfl) (fun K hK => ?_)
                go_simp
                have hlw := HZ24.out.size
                refine (cdcl_any C none nC cC 0 0 xss [] 5 v24_ (HCz.out.grid.keep HZ24.out) HNN.out (fun a ha => Nat.lt_of_lt_of_le (HLL.out a ha) hlw) ⟨Sl_nil v24_, by simp⟩ HBES.out so ro ko po hs1 hs2 hs3 hs4 2000 (Nat.le_refl _) core_none).mono ?_
                rintro e v25_ ⟨st9, hb9, hn9, hc9, S9, ns9, cs9, K9, nk9, ck9, used9, rfl, b25, ha9⟩
                obtain rfl : st9 = 1 := answ_par (qs := qs) HF.out (by rw [← HX.out]; exact ha9) (.inr ⟨rfl, rows, HRS.out, HPQ.out⟩)
                clear ha9 hlw
                have KA25 := Lib.hid (KA24.out.keep b25)
                have KB25 := Lib.hid (KB24.out.keep b25)
                have HZ25 := Lib.hid (below_next HZ24.out b25)
                have hS : v25_.cell? ⟨w.heap.size, 0, none⟩ = some (.int .i64 5) ∧ v25_.cell? ⟨w.heap.size, 1, none⟩ = some (.slice C nC cC) := ⟨keepBox HZ25.out kz0, keepBox HZ25.out kz1⟩
                clear b25
                refine hK _ _ (fun _ => hS) ?_
                clear hK
                (try simp only [Act.put, List.setIfInBounds_toArray, List.set_cons_zero, List.set_cons_succ])
                refine take0 (i := 4) (oi := _) (v := ?_) rfl (by kernel_rfl) (by kernel_rfl) (by kernel_rfl) (fun _ _ _ h => h) rfl (Or.inl ⟨by rfl, ?_⟩) (fun _ => hS) ?_
                rotate_left
                · intro w0; go_simp; with_reducible rfl
                (try simp only [Act.put, List.setIfInBounds_toArray, List.set_cons_zero, List.set_cons_succ])
                refine take0 (i := 5) (oi := _) (v := ?_) rfl (by kernel_rfl) (by kernel_rfl) (by kernel_rfl) (fun _ _ _ h => h) rfl (Or.inl ⟨by rfl, ?_⟩) (fun _ => hS) ?_
                rotate_left
                · intro w0; go_simp; with_reducible rfl
                (try simp only [Act.put, List.setIfInBounds_toArray, List.set_cons_zero, List.set_cons_succ])
                refine take0 (i := 6) (oi := _) (v := ?_) rfl (by kernel_rfl) (by kernel_rfl) (by kernel_rfl) (fun _ _ _ h => h) rfl (Or.inl ⟨by rfl, ?_⟩) (fun _ => hS) ?_
                rotate_left
                · intro w0; go_simp; with_reducible rfl
                (try simp only [Act.put, List.setIfInBounds_toArray, List.set_cons_zero, List.set_cons_succ])
                refine oneT (i := 9) (by kernel_rfl) rfl (by rfl) (fun K hK => ?_)
                have e0 := KA25.out.cell 0
                have e1 := KA25.out.cell 1
                have e2 := KA25.out.cell 2
                have e3 := KA25.out.cell 3
                have e4 := KA25.out.cell 4
                have f0 := KA25.out.frozen 0
                have f1 := KA25.out.frozen 1
                have f2 := KA25.out.frozen 2
                have f3 := KA25.out.frozen 3
                have f4 := KA25.out.frozen 4
                simp at e0 e1 e2 e3 e4
                have le := KA25.out.lt
                have pp := put5 KA25.out KB25.out hne HZ25.out hg17 (.int .i64 1) (.slice hb9 hn9 hc9) (.slice S9 ns9 cs9) (.slice K9 nk9 ck9) (.int .i64 used9)
                go_simp
                clear e0 e1 e2 e3 e4 f0 f1 f2 f3 f4 le
                refine hK _ _ (noT_no (by kernel_rfl)) ?_
                clear hK
                (try simp only [Act.put, List.setIfInBounds_toArray, List.set_cons_zero, List.set_cons_succ])
                obtain ⟨v5, hv5⟩ : ∃ z : World, z = (((((v25_.setCell ⟨bA, 0, none⟩ (.int .i64 1)).setCell ⟨bA, 1, none⟩ (.slice hb9 hn9 hc9)).setCell ⟨bA, 2, none⟩ (.slice S9 ns9 cs9)).setCell ⟨bA, 3, none⟩ (.slice K9 nk9 ck9)).setCell ⟨bA, 4, none⟩ (.int .i64 used9)) := ⟨_, rfl⟩
                obtain ⟨p1, p2, p3⟩ := pp
                rw [← hv5] at p1 p2 p3 ⊢
                have P1 := Lib.hid p1
                have P2 := Lib.hid p2
                have P3 := Lib.hid p3
                clear hv5 p1 p2 p3
                refine oneT (i := 10) (by kernel_rfl) rfl (by rfl) (fun K hK => ?_)
                have e0 := P2.out.cell 0
                have e1 := P2.out.cell 1
                have f0 := P2.out.frozen 0
                have f1 := P2.out.frozen 1
                simp at e0 e1
                have le := P2.out.lt
                have pq := put2_ P1.out P2.out hne P3.out hg23
                go_simp
                clear e0 e1 f0 f1 le
                refine hK _ _ (noT_no (by kernel_rfl)) ?_
                clear hK
                (try simp only [Act.put, List.setIfInBounds_toArray, List.set_cons_zero, List.set_cons_succ])
                obtain ⟨v6, hv6⟩ : ∃ z : World, z = ((v5.setCell ⟨bB, 0, none⟩ (.int .i64 0)).setCell ⟨bB, 1, none⟩ (.int .i64 0)) := ⟨_, rfl⟩
                obtain ⟨p1, p2, p3⟩ := pq
                rw [← hv6] at p1 p2 p3 ⊢
                have Q1 := Lib.hid p1
                have Q2 := Lib.hid p2
                have Q3 := Lib.hid p3
                clear hv6 p1 p2 p3 P1 P2 P3
                refine doneT (by kernel_rfl) ?_ _
                have c1 := keepBox Q3.out kz1
                have zc := (cell_lt c1).1
                have a0 := Q1.out.cell 0
                have a4 := Q1.out.lt
                have b0 := Q2.out.cell 0
                have b4 := Q2.out.lt
                simp at a0 b0
                by_cases h40 : (40 : Int) < (nC : Int)
                all_goals
                  go_wp2_with fail
                  go_ret
                  exact ⟨rfl, below_next HBz.out Q3.out⟩
            · go_simp
              obtain ⟨v26_, h26⟩ : ∃ z : World, z = wz.alloc (.cells #[.int .i64 0, .int .i64 0] 28) := ⟨_, rfl⟩
              have b26 : Below wz.heap.size wz v26_ := by rw [h26]; exact below_new _ _
              have KB26 : Hid (Blk v26_ wz.heap.size 28 #[.int .i64 0, .int .i64 0]) := by rw [h26]; exact Blk.new _ _ _
              rw [← h26]
              obtain ⟨bB, hbB⟩ : ∃ z : Nat, wz.heap.size = z := ⟨_, rfl⟩
              have hg26 : wz.heap.size ≤ bB := by rw [← hbB]; exact HZ0.out.size
              rw [hbB] at KB26 ⊢
              have HZ26 := Lib.hid (below_next HZ0.out b26)
              have hS : v26_.cell? ⟨w.heap.size, 0, none⟩ = some (.int .i64 5) ∧ v26_.cell? ⟨w.heap.size, 1, none⟩ = some (.slice C nC cC) := ⟨keepBox HZ26.out kz0, keepBox HZ26.out kz1⟩
              clear h26 hbB
              clear b26
              refine hK _ _ (fun _ => hS) ?_
              clear hK
              (try simp only [Act.put, List.setIfInBounds_toArray, List.set_cons_zero, List.set_cons_succ])
              refine twoT (i := 2) (j := 7) (by kernel_rfl) rfl (by rfl) rfl (by rfl) (fun K hK => ?_) (fun K hK => ?_)
              · go_simp
                refine (optionsOf_any o v26_ HOP.out).mono ?_
                rintro e v27_ ⟨so, ro, ko, po, rfl, hs1, hs2, hs3, hs4, b27⟩
                have KB27 := Lib.hid (KB26.out.keep b27)
                have HZ27 := Lib.hid (below_next HZ26.out b27)
                have hS : v27_.cell? ⟨w.heap.size, 0, none⟩ = some (.int .i64 5) ∧ v27_.cell? ⟨w.heap.size, 1, none⟩ = some (.slice C nC cC) := ⟨keepBox HZ27.out kz0, keepBox HZ27.out kz1⟩
                clear b27
                refine hK _ _ (fun _ => hS) ?_
                clear hK
                (try simp only [Act.put, List.setIfInBounds_toArray, List.set_cons_zero, List.set_cons_succ])
                refine twoT (i := 3) (j := 7) (by kernel_rfl) rfl (by rfl) rfl (by rfl) (fun K hK => ?_) (fun K hK => ?_)
                · go_simp
                  have hlw := HZ27.out.size
                  refine (cdcl_any C none nC cC 0 0 xss [] 5 v27_ (HCz.out.grid.keep HZ27.out) HNN.out (fun a ha => Nat.lt_of_lt_of_le (HLL.out a ha) hlw) ⟨Sl_nil v27_, by simp⟩ HBES.out so ro ko po hs1 hs2 hs3 hs4 2000 (Nat.le_refl _) core_none).mono ?_
                  rintro e v28_ ⟨st9, hb9, hn9, hc9, S9, ns9, cs9, K9, nk9, ck9, used9, rfl, b28, ha9⟩
                  obtain rfl : st9 = 1 := answ_par (qs := qs) HF.out (by rw [← HX.out]; exact ha9) (.inr ⟨rfl, rows, HRS.out, HPQ.out⟩)
                  clear ha9 hlw
                  have KB28 := Lib.hid (KB27.out.keep b28)
                  have HZ28 := Lib.hid (below_next HZ27.out b28)
                  have hS : v28_.cell? ⟨w.heap.size, 0, none⟩ = some (.int .i64 5) ∧ v28_.cell? ⟨w.heap.size, 1, none⟩ = some (.slice C nC cC) := ⟨keepBox HZ28.out kz0, keepBox HZ28.out kz1⟩
                  clear b28
                  refine hK _ _ (fun _ => hS) ?_
                  clear hK
                  (try simp only [Act.put, List.setIfInBounds_toArray, List.set_cons_zero, List.set_cons_succ])
                  refine take0 (i := 4) (oi := _) (v := ?_) rfl (by kernel_rfl) (by kernel_rfl) (by kernel_rfl) (fun _ _ _ h => h) rfl (Or.inl ⟨by rfl, ?_⟩) (fun _ => hS) ?_
                  rotate_left
                  · intro w0; go_simp; with_reducible rfl
                  (try simp only [Act.put, List.setIfInBounds_toArray, List.set_cons_zero, List.set_cons_succ])
                  refine take0 (i := 5) (oi := _) (v := ?_) rfl (by kernel_rfl) (by kernel_rfl) (by kernel_rfl) (fun _ _ _ h => h) rfl (Or.inl ⟨by rfl, ?_⟩) (fun _ => hS) ?_
                  rotate_left
                  · intro w0; go_simp; with_reducible rfl
                  (try simp only [Act.put, List.setIfInBounds_toArray, List.set_cons_zero, List.set_cons_succ])
                  refine take0 (i := 6) (oi := _) (v := ?_) rfl (by kernel_rfl) (by kernel_rfl) (by kernel_rfl) (fun _ _ _ h => h) rfl (Or.inl ⟨by rfl, ?_⟩) (fun _ => hS) ?_
                  rotate_left
                  · intro w0; go_simp; with_reducible rfl
                  (try simp only [Act.put, List.setIfInBounds_toArray, List.set_cons_zero, List.set_cons_succ])
                  refine oneT (i := 7) (by kernel_rfl) rfl (by rfl) (fun K hK => ?_)
                  go_simp
                  obtain ⟨v29_, h29⟩ : ∃ z : World, z = v28_.alloc (.cells #[.int .i64 0, .slice none 0 0, .slice none 0 0, .slice none 0 0, .int .i64 0] 46) := ⟨_, rfl⟩
                  have b29 : Below v28_.heap.size v28_ v29_ := by rw [h29]; exact below_new _ _
                  have KA29 : Hid (Blk v29_ v28_.heap.size 46 #[.int .i64 0, .slice none 0 0, .slice none 0 0, .slice none 0 0, .int .i64 0]) := by rw [h29]; exact Blk.new _ _ _
                  rw [← h29]
                  obtain ⟨bA, hbA⟩ : ∃ z : Nat, v28_.heap.size = z := ⟨_, rfl⟩
                  have hg29 : wz.heap.size ≤ bA := by rw [← hbA]; exact HZ28.out.size
                  rw [hbA] at KA29 ⊢
                  have hne : bA ≠ bB := by have := KB28.out.lt; omega
                  have KB29 := Lib.hid (KB28.out.keep b29)
                  have HZ29 := Lib.hid (below_next HZ28.out b29)
                  have hS : v29_.cell? ⟨w.heap.size, 0, none⟩ = some (.int .i64 5) ∧ v29_.cell? ⟨w.heap.size, 1, none⟩ = some (.slice C nC cC) := ⟨keepBox HZ29.out kz0, keepBox HZ29.out kz1⟩
                  clear h29 hbA
                  clear b29
                  refine hK _ _ (fun _ => hS) ?_
                  clear hK
                  (try simp only [Act.put, List.setIfInBounds_toArray, List.set_cons_zero, List.set_cons_succ])
                  refine oneT (i := 9) (by kernel_rfl) rfl (by rfl) (fun K hK => ?_)
                  have e0 := KA29.out.cell 0
                  have e1 := KA29.out.cell 1
                  have e2 := KA29.out.cell 2
                  have e3 := KA29.out.cell 3
                  have e4 := KA29.out.cell 4
                  have f0 := KA29.out.frozen 0
                  have f1 := KA29.out.frozen 1
                  have f2 := KA29.out.frozen 2
                  have f3 := KA29.out.frozen 3
                  have f4 := KA29.out.frozen 4
                  simp at e0 e1 e2 e3 e4
                  have le := KA29.out.lt
                  have pp := put5 KA29.out KB29.out hne HZ29.out hg29 (.int .i64 1) (.slice hb9 hn9 hc9) (.slice S9 ns9 cs9) (.slice K9 nk9 ck9) (.int .i64 used9)
                  go_simp
                  clear e0 e1 e2 e3 e4 f0 f1 f2 f3 f4 le
                  refine hK _ _ (noT_no (by kernel_rfl)) ?_
                  clear hK
                  (try simp only [Act.put, List.setIfInBounds_toArray, List.set_cons_zero, List.set_cons_succ])
                  obtain ⟨v5, hv5⟩ : ∃ z : World, z = (((((v29_.setCell ⟨bA, 0, none⟩ (.int .i64 1)).setCell ⟨bA, 1, none⟩ (.slice hb9 hn9 hc9)).setCell ⟨bA, 2, none⟩ (.slice S9 ns9 cs9)).setCell ⟨bA, 3, none⟩ (.slice K9 nk9 ck9)).setCell ⟨bA, 4, none⟩ (.int .i64 used9)) := ⟨_, rfl⟩
                  obtain ⟨p1, p2, p3⟩ := pp
                  rw [← hv5] at p1 p2 p3 ⊢
                  have P1 := Lib.hid p1
                  have P2 := Lib.hid p2
                  have P3 := Lib.hid p3
                  clear hv5 p1 p2 p3
                  refine oneT (i := 10) (by kernel_rfl) rfl (by rfl) (fun K hK => ?_)
                  have e0 := P2.out.cell 0
                  have e1 := P2.out.cell 1
                  have f0 := P2.out.frozen 0
                  have f1 := P2.out.frozen 1
                  simp at e0 e1
                  have le := P2.out.lt
                  have pq := put2_ P1.out P2.out hne P3.out hg26
                  go_simp
                  clear e0 e1 f0 f1 le
                  refine hK _ _ (noT_no (by kernel_rfl)) ?_
                  clear hK
                  (try simp only [Act.put, List.setIfInBounds_toArray, List.set_cons_zero, List.set_cons_succ])
                  obtain ⟨v6, hv6⟩ : ∃ z : World, z = ((v5.setCell ⟨bB, 0, none⟩ (.int .i64 0)).setCell ⟨bB, 1, none⟩ (.int .i64 0)) := ⟨_, rfl⟩
                  obtain ⟨p1, p2, p3⟩ := pq
                  rw [← hv6] at p1 p2 p3 ⊢
                  have Q1 := Lib.hid p1
                  have Q2 := Lib.hid p2
                  have Q3 := Lib.hid p3
                  clear hv6 p1 p2 p3 P1 P2 P3
                  refine doneT (by kernel_rfl) ?_ _
                  have c1 := keepBox Q3.out kz1
                  have zc := (cell_lt c1).1
                  have a0 := Q1.out.cell 0
                  have a4 := Q1.out.lt
                  have b0 := Q2.out.cell 0
                  have b4 := Q2.out.lt
                  simp at a0 b0
                  by_cases h40 : (40 : Int) < (nC : Int)
                  all_goals
                    go_wp2_with fail
                    go_ret
                    exact ⟨rfl, below_next HBz.out Q3.out⟩
                · go_simp
                  obtain ⟨v30_, h30⟩ : ∃ z : World, z = v27_.alloc (.cells #[.int .i64 0, .slice none 0 0, .slice none 0 0, .slice none 0 0, .int .i64 0] 46) := ⟨_, rfl⟩
                  have b30 : Below v27_.heap.size v27_ v30_ := by rw [h30]; exact below_new _ _
                  have KA30 : Hid (Blk v30_ v27_.heap.size 46 #[.int .i64 0, .slice none 0 0, .slice none 0 0, .slice none 0 0, .int .i64 0]) := by rw [h30]; exact Blk.new _ _ _
                  rw [← h30]
                  obtain ⟨bA, hbA⟩ : ∃ z : Nat, v27_.heap.size = z := ⟨_, rfl⟩
                  have hg30 : wz.heap.size ≤ bA := by rw [← hbA]; exact HZ27.out.size
                  rw [hbA] at KA30 ⊢
                  have hne : bA ≠ bB := by have := KB27.out.lt; omega
                  have KB30 := Lib.hid (KB27.out.keep b30)
                  have HZ30 := Lib.hid (below_next HZ27.out b30)
                  have hS : v30_.cell? ⟨w.heap.size, 0, none⟩ = some (.int .i64 5) ∧ v30_.cell? ⟨w.heap.size, 1, none⟩ = some (.slice C nC cC) := ⟨keepBox HZ30.out kz0, keepBox HZ30.out kz1⟩
                  clear h30 hbA
                  clear b30
                  refine hK _ _ (fun _ => hS) ?_
                  clear hK
                  (try simp only [Act.put, List.setIfInBounds_toArray, List.set_cons_zero, List.set_cons_succ])
                  refine oneT (i := 3) (by kernel_rfl) rfl (by rfl) (fun K hK => ?_)
                  go_simp
                  have hlw := HZ30.out.size
                  refine (cdcl_any C none nC cC 0 0 xss [] 5 v30_ (HCz.out.grid.keep HZ30.out) HNN.out (fun a ha => Nat.lt_of_lt_of_le (HLL.out a ha) hlw) ⟨Sl_nil v30_, by simp⟩ HBES.out so ro ko po hs1 hs2 hs3 hs4 2000 (Nat.le_refl _) core_none).mono ?_
                  rintro e v31_ ⟨st9, hb9, hn9, hc9, S9, ns9, cs9, K9, nk9, ck9, used9, rfl, b31, ha9⟩
                  obtain rfl : st9 = 1 := answ_par (qs := qs) HF.out (by rw [← HX.out]; exact ha9) (.inr ⟨rfl, rows, HRS.out, HPQ.out⟩)
                  clear ha9 hlw
                  have KA31 := Lib.hid (KA30.out.keep b31)
                  have KB31 := Lib.hid (KB30.out.keep b31)
                  have HZ31 := Lib.hid (below_next HZ30.out b31)
                  have hS : v31_.cell? ⟨w.heap.size, 0, none⟩ = some (.int .i64 5) ∧ v31_.cell? ⟨w.heap.size, 1, none⟩ = some (.slice C nC cC) := ⟨keepBox HZ31.out kz0, keepBox HZ31.out kz1⟩
                  clear b31
                  refine hK _ _ (fun _ => hS) ?_
                  clear hK
                  (try simp only [Act.put, List.setIfInBounds_toArray, List.set_cons_zero, List.set_cons_succ])
                  refine take0 (i := 4) (oi := _) (v := ?_) rfl (by kernel_rfl) (by kernel_rfl) (by kernel_rfl) (fun _ _ _ h => h) rfl (Or.inl ⟨by rfl, ?_⟩) (fun _ => hS) ?_
                  rotate_left
                  · intro w0; go_simp; with_reducible rfl
                  (try simp only [Act.put, List.setIfInBounds_toArray, List.set_cons_zero, List.set_cons_succ])
                  refine take0 (i := 5) (oi := _) (v := ?_) rfl (by kernel_rfl) (by kernel_rfl) (by kernel_rfl) (fun _ _ _ h => h) rfl (Or.inl ⟨by rfl, ?_⟩) (fun _ => hS) ?_
                  rotate_left
                  · intro w0; go_simp; with_reducible rfl
                  (try simp only [Act.put, List.setIfInBounds_toArray, List.set_cons_zero, List.set_cons_succ])
                  refine take0 (i := 6) (oi := _) (v := ?_) rfl (by kernel_rfl) (by kernel_rfl) (by kernel_rfl) (fun _ _ _ h => h) rfl (Or.inl ⟨by rfl, ?_⟩) (fun _ => hS) ?_
                  rotate_left
                  · intro w0; go_simp; with_reducible rfl
                  (try simp only [Act.put, List.setIfInBounds_toArray, List.set_cons_zero, List.set_cons_succ])
                  refine oneT (i := 9) (by kernel_rfl) rfl (by rfl) (fun K hK => ?_)
                  have e0 := KA31.out.cell 0
                  have e1 := KA31.out.cell 1
                  have e2 := KA31.out.cell 2
                  have e3 := KA31.out.cell 3
                  have e4 := KA31.out.cell 4
                  have f0 := KA31.out.frozen 0
                  have f1 := KA31.out.frozen 1
                  have f2 := KA31.out.frozen 2
                  have f3 := KA31.out.frozen 3
                  have f4 := KA31.out.frozen 4
                  simp at e0 e1 e2 e3 e4
                  have le := KA31.out.lt
                  have pp := put5 KA31.out KB31.out hne HZ31.out hg30 (.int .i64 1) (.slice hb9 hn9 hc9) (.slice S9 ns9 cs9) (.slice K9 nk9 ck9) (.int .i64 used9)
                  go_simp
                  clear e0 e1 e2 e3 e4 f0 f1 f2 f3 f4 le
                  refine hK _ _ (noT_no (by kernel_rfl)) ?_
                  clear hK
                  (try simp only [Act.put, List.setIfInBounds_toArray, List.set_cons_zero, List.set_cons_succ])
                  obtain ⟨v5, hv5⟩ : ∃ z : World, z = (((((v31_.setCell ⟨bA, 0, none⟩ (.int .i64 1)).setCell ⟨bA, 1, none⟩ (.slice hb9 hn9 hc9)).setCell ⟨bA, 2, none⟩ (.slice S9 ns9 cs9)).setCell ⟨bA, 3, none⟩ (.slice K9 nk9 ck9)).setCell ⟨bA, 4, none⟩ (.int .i64 used9)) := ⟨_, rfl⟩
                  obtain ⟨p1, p2, p3⟩ := pp
                  rw [← hv5] at p1 p2 p3 ⊢
                  have P1 := Lib.hid p1
                  have P2 := Lib.hid p2
                  have P3 := Lib.hid p3
                  clear hv5 p1 p2 p3
                  refine oneT (i := 10) (by kernel_rfl) rfl (by rfl) (fun K hK => ?_)
                  have e0 := P2.out.cell 0
                  have e1 := P2.out.cell 1
                  have f0 := P2.out.frozen 0
                  have f1 := P2.out.frozen 1
                  simp at e0 e1
                  have le := P2.out.lt
                  have pq := put2_ P1.out P2.out hne P3.out hg26
                  go_simp
                  clear e0 e1 f0 f1 le
                  refine hK _ _ (noT_no (by kernel_rfl)) ?_
                  clear hK
                  (try simp only [Act.put, List.setIfInBounds_toArray, List.set_cons_zero, List.set_cons_succ])
                  obtain ⟨v6, hv6⟩ : ∃ z : World, z = ((v5.setCell ⟨bB, 0, none⟩ (.int .i64 0)).setCell ⟨bB, 1, none⟩ (.int .i64 0)) := ⟨_, rfl⟩
                  obtain ⟨p1, p2, p3⟩ := pq
                  rw [← hv6] at p1 p2 p3 ⊢
                  have Q1 := Lib.hid p1
                  have Q2 := Lib.hid p2
                  have Q3 := Lib.hid p3
                  clear hv6 p1 p2 p3 P1 P2 P3
                  refine doneT (by kernel_rfl) ?_ _
                  have c1 := keepBox Q3.out kz1
                  have zc := (cell_lt c1).1
                  have a0 := Q1.out.cell 0
                  have a4 := Q1.out.lt
                  have b0 := Q2.out.cell 0
                  have b4 := Q2.out.lt
                  simp at a0 b0
                  by_cases h40 : (40 : Int) < (nC : Int)
                  all_goals
                    go_wp2_with fail
                    go_ret
                    exact ⟨rfl, below_next HBz.out Q3.out⟩
              · go_simp
                obtain ⟨v32_, h32⟩ : ∃ z : World, z = v26_.alloc (.cells #[.int .i64 0, .slice none 0 0, .slice none 0 0, .slice none 0 0, .int .i64 0] 46) := ⟨_, rfl⟩
                have b32 : Below v26_.heap.size v26_ v32_ := by rw [h32]; exact below_new _ _
                have KA32 : Hid (Blk v32_ v26_.heap.size 46 #[.int .i64 0, .slice none 0 0, .slice none 0 0, .slice none 0 0, .int .i64 0]) := by rw [h32]; exact Blk.new _ _ _
                rw [← h32]
                obtain ⟨bA, hbA⟩ : ∃ z : Nat, v26_.heap.size = z := ⟨_, rfl⟩
                have hg32 : wz.heap.size ≤ bA := by rw [← hbA]; exact HZ26.out.size
                rw [hbA] at KA32 ⊢
                have hne : bA ≠ bB := by have := KB26.out.lt; omega
                have KB32 := Lib.hid (KB26.out.keep b32)
                have HZ32 := Lib.hid (below_next HZ26.out b32)
                have hS : v32_.cell? ⟨w.heap.size, 0, none⟩ = some (.int .i64 5) ∧ v32_.cell? ⟨w.heap.size, 1, none⟩ = some (.slice C nC cC) := ⟨keepBox HZ32.out kz0, keepBox HZ32.out kz1⟩
                clear h32 hbA
                clear b32
                refine hK _ _ (fun _ => hS) ?_
                clear hK
                (try simp only [Act.put, List.setIfInBounds_toArray, List.set_cons_zero, List.set_cons_succ])
                refine oneT (i := 2) (by kernel_rfl) rfl (by rfl) (fun K hK => ?_)
                go_simp
                refine (optionsOf_any o v32_ HOP.out).mono ?_
                rintro e v33_ ⟨so, ro, ko, po, rfl, hs1, hs2, hs3, hs4, b33⟩
                have KA33 := Lib.hid (KA32.out.keep b33)
                have KB33 := Lib.hid (KB32.out.keep b33)
                have HZ33 := Lib.hid (below_next HZ32.out b33)
                have hS : v33_.cell? ⟨w.heap.size, 0, none⟩ = some (.int .i64 5) ∧ v33_.cell? ⟨w.heap.size, 1, none⟩ = some (.slice C nC cC) := ⟨keepBox HZ33.out kz0, keepBox HZ33.out kz1⟩
                clear b33
                refine hK _ _ (fun _ => hS) ?_
                clear hK
                (try simp only [Act.put, List.setIfInBounds_toArray, List.set_cons_zero, List.set_cons_succ])
                refine oneT (i := 3) (by kernel_rfl) rfl (by rfl) (fun K hK => ?_)
                go_simp
                have hlw := HZ33.out.size
                refine (cdcl_any C none nC cC 0 0 xss [] 5 v33_ (HCz.out.grid.keep HZ33.out) HNN.out (fun a ha => Nat.lt_of_lt_of_le (HLL.out a ha) hlw) ⟨Sl_nil v33_, by simp⟩ HBES.out so ro ko po hs1 hs2 hs3 hs4 2000 (Nat.le_refl _) core_none).mono ?_
                rintro e v34_ ⟨st9, hb9, hn9, hc9, S9, ns9, cs9, K9, nk9, ck9, used9, rfl, b34, ha9⟩
                obtain rfl : st9 = 1 := answ_par (qs := qs) HF.out (by rw [← HX.out]; exact ha9) (.inr ⟨rfl, rows, HRS.out, HPQ.out⟩)
                clear ha9 hlw
                have KA34 := Lib.hid (KA33.out.keep b34)
                have KB34 := Lib.hid (KB33.out.keep b34)
                have HZ34 := Lib.hid (below_next HZ33.out b34)
                have hS : v34_.cell? ⟨w.heap.size, 0, none⟩ = some (.int .i64 5) ∧ v34_.cell? ⟨w.heap.size, 1, none⟩ = some (.slice C nC cC) := ⟨keepBox HZ34.out kz0, keepBox HZ34.out kz1⟩
                clear b34
                refine hK _ _ (fun _ => hS) ?_
                clear hK
                (try simp only [Act.put, List.setIfInBounds_toArray, List.set_cons_zero, List.set_cons_succ])
                refine take0 (i := 4) (oi := _) (v := ?_) rfl (by kernel_rfl) (by kernel_rfl) (by kernel_rfl) (fun _ _ _ h => h) rfl (Or.inl ⟨by rfl, ?_⟩) (fun _ => hS) ?_
                rotate_left
                · intro w0; go_simp; with_reducible rfl
                (try simp only [Act.put, List.setIfInBounds_toArray, List.set_cons_zero, List.set_cons_succ])
                refine take0 (i := 5) (oi := _) (v := ?_) rfl (by kernel_rfl) (by kernel_rfl) (by kernel_rfl) (fun _ _ _ h => h) rfl (Or.inl ⟨by rfl, ?_⟩) (fun _ => hS) ?_
                rotate_left
                · intro w0; go_simp; with_reducible rfl
                (try simp only [Act.put, List.setIfInBounds_toArray, List.set_cons_zero, List.set_cons_succ])
                refine take0 (i := 6) (oi := _) (v := ?_) rfl (by kernel_rfl) (by kernel_rfl) (by kernel_rfl) (fun _ _ _ h => h) rfl (Or.inl ⟨by rfl, ?_⟩) (fun _ => hS) ?_
                rotate_left
                · intro w0; go_simp; with_reducible rfl
                (try simp only [Act.put, List.setIfInBounds_toArray, List.set_cons_zero, List.set_cons_succ])
                refine oneT (i := 9) (by kernel_rfl) rfl (by rfl) (fun K hK => ?_)
                have e0 := KA34.out.cell 0
                have e1 := KA34.out.cell 1
                have e2 := KA34.out.cell 2
                have e3 := KA34.out.cell 3
                have e4 := KA34.out.cell 4
                have f0 := KA34.out.frozen 0
                have f1 := KA34.out.frozen 1
                have f2 := KA34.out.frozen 2
                have f3 := KA34.out.frozen 3
                have f4 := KA34.out.frozen 4
                simp at e0 e1 e2 e3 e4
                have le := KA34.out.lt
                have pp := put5 KA34.out KB34.out hne HZ34.out hg32 (.int .i64 1) (.slice hb9 hn9 hc9) (.slice S9 ns9 cs9) (.slice K9 nk9 ck9) (.int .i64 used9)
                go_simp
                clear e0 e1 e2 e3 e4 f0 f1 f2 f3 f4 le
                refine hK _ _ (noT_no (by kernel_rfl)) ?_
                clear hK
                (try simp only [Act.put, List.setIfInBounds_toArray, List.set_cons_zero, List.set_cons_succ])
                obtain ⟨v5, hv5⟩ : ∃ z : World, z = (((((v34_.setCell ⟨bA, 0, none⟩ (.int .i64 1)).setCell ⟨bA, 1, none⟩ (.slice hb9 hn9 hc9)).setCell ⟨bA, 2, none⟩ (.slice S9 ns9 cs9)).setCell ⟨bA, 3, none⟩ (.slice K9 nk9 ck9)).setCell ⟨bA, 4, none⟩ (.int .i64 used9)) := ⟨_, rfl⟩
                obtain ⟨p1, p2, p3⟩ := pp
                rw [← hv5] at p1 p2 p3 ⊢
                have P1 := Lib.hid p1
                have P2 := Lib.hid p2
                have P3 := Lib.hid p3
                clear hv5 p1 p2 p3
                refine oneT (i := 10) (by kernel_rfl) rfl (by rfl) (fun K hK => ?_)
                have e0 := P2.out.cell 0
                have e1 := P2.out.cell 1
                have f0 := P2.out.frozen 0
                have f1 := P2.out.frozen 1
                simp at e0 e1
                have le := P2.out.lt
                have pq := put2_ P1.out P2.out hne P3.out hg26
                go_simp
                clear e0 e1 f0 f1 le
                refine hK _ _ (noT_no (by kernel_rfl)) ?_
                clear hK
                (try simp only [Act.put, List.setIfInBounds_toArray, List.set_cons_zero, List.set_cons_succ])
                obtain ⟨v6, hv6⟩ : ∃ z : World, z = ((v5.setCell ⟨bB, 0, none⟩ (.int .i64 0)).setCell ⟨bB, 1, none⟩ (.int .i64 0)) := ⟨_, rfl⟩
                obtain ⟨p1, p2, p3⟩ := pq
                rw [← hv6] at p1 p2 p3 ⊢
                have Q1 := Lib.hid p1
                have Q2 := Lib.hid p2
                have Q3 := Lib.hid p3
                clear hv6 p1 p2 p3 P1 P2 P3
                refine doneT (by kernel_rfl) ?_ _
                have c1 := keepBox Q3.out kz1
                have zc := (cell_lt c1).1
                have a0 := Q1.out.cell 0
                have a4 := Q1.out.lt
                have b0 := Q2.out.cell 0
                have b4 := Q2.out.lt
                simp at a0 b0
                by_cases h40 : (40 : Int) < (nC : Int)
                all_goals
                  go_wp2_with fail
                  go_ret
                  exact ⟨rfl, below_next HBz.out Q3.out⟩
end Go.Proofs.YtlfgcblijfflfaaGreat

/- The law TopParities holds: for every input it returns true, and each argument reads behind the call as it read before. -/
namespace Go.Proofs.YtlfgcblijfflfaaGreat
open Go.ChangeShapes Go.WideShapes Go.ChangeAt Go.RowKit Go.Deep Go.Joins
set_option linter.unusedVariables false

theorem topParities_knob : ownKnob Tryz.prog.godebug = none := by kernel_rfl
theorem topParities_laidOut : laidOutB Tryz.prog = true := by kernel_rfl

set_option maxRecDepth 100000 in
theorem topParities_lifted (os : Os) (started : os.Started) (H : Type) (enc : TypeId × Value → H) :
    ReturnsInHanded {} Tryz.checked os 4 .any (Rows.topParitiesSpec.pre6 enc Tryz.prog Tryz.f4 Rows.topParitiesRow.domain false) (Rows.topParitiesSpec.post enc Tryz.prog Tryz.f4 false true false false) := by
  refine returnsInHanded_of_change (C := Tryz.checked) topParities_knob started (by kernel_rfl) Tryz.func4
    (ChangeSpec.witness6 (enc := enc) (C := Tryz.checked) false ⟨#[], #[.slice none 0 0, .int .i64 0], []⟩ 8 (by kernel_rfl) (by kernel_rfl) (by kernel_rfl) (by kernel_rfl)) ?_
  intro W base args ds gs before hval0 hW hcnd _
  have hval : ∀ (j : Nat) t v, Tryz.f4.params[j]? = some t → args[j]? = some v → Value.okWide Tryz.prog W .any base t v := hval0
  have hW' := hW
  obtain ⟨p, q, hA0, hV, rfl, hfz, hnd⟩ := hW
  have hA : DataW.TrodAll enc Tryz.prog W 0 (fun _ => true) true Tryz.f4.params.toList args.toList ds p := hA0
  rw [Tryz.params4] at hA hval
  obtain ⟨v0, vs0, d0, ds0, p0, q0, hargs, rfl, rfl, h0, r0⟩ := trodAll_cons hA
  obtain ⟨v1, vs1, d1, ds1, p1, q1, rfl, rfl, rfl, h1, r1⟩ := trodAll_cons r0
  obtain ⟨rfl, rfl, rfl⟩ := trodAll_nil r1
  obtain rfl : args = #[v0, v1] := by cases args; simp_all
  obtain ⟨rfl, rfl⟩ := trodVars_none hV
  have k0 := h0
  have lt0 : ∀ x ∈ p0, x.block < W.heap.size := by obtain ⟨m, hm⟩ := k0; exact DataW.trod_lt m _ _ _ hm
  obtain ⟨A0, n0, c0, rfl⟩ := okWide_slice Tryz.underlying22 (hval 0 22 v0 rfl rfl)
  obtain ⟨fuel0, hf0⟩ := h0
  obtain ⟨B0, m0, e0, x0, eq0, w0⟩ := rd_ints Tryz.underlying22 Tryz.underlying3 (by kernel_rfl) hf0
  cases eq0
  have k1 := h1
  have lt1 : ∀ x ∈ p1, x.block < W.heap.size := by obtain ⟨m, hm⟩ := k1; exact DataW.trod_lt m _ _ _ hm
  obtain ⟨a1, rfl, _, _, w1⟩ := open_int Tryz.underlying3 (hval 1 3 v1 rfl rfl) h1
  clear hA0 hval0
  refine (topParities_walk _ w0 (i64_wf w1)).mono fun e W' ⟨he, bel⟩ => ?_
  subst he
  exact ⟨_, rfl, _, _, _, [], _, [], hW', trodAll_mk1 (shut_bool Tryz.underlying4 _), (trodAll_cons_mk (Below.trod topParities_laidOut (by kernel_rfl) (of_decide_eq_true (by kernel_rfl)) k0 bel lt0) (trodAll_cons_mk (Below.trod topParities_laidOut (by kernel_rfl) (of_decide_eq_true (by kernel_rfl)) k1 bel lt1) trodAll_mk0)), rfl, bel.frame _, fun h => by cases h⟩

/-- THE STATEMENT. -/
theorem topParities_holds : Rows.TopParitiesSaid :=
  OpenClaim.holds_of_wide 4 Tryz.f4 rfl rfl rfl rfl rfl rfl rfl ⟨rfl, rfl, rfl, rfl, rfl⟩ rfl rfl rfl rfl rfl (by kernel_rfl) Tryz.func4 (by kernel_rfl)
    (of_decide_eq_true (by kernel_rfl)) (by unfold Func.isWrapper; first | (rw [if_pos (by decide +kernel)]; kernel_rfl) | (rw [if_neg (by decide +kernel)]; exact ⟨rfl, rfl⟩))
    (fun os started H enc _ => topParities_lifted os started H enc)
end Go.Proofs.YtlfgcblijfflfaaGreat
