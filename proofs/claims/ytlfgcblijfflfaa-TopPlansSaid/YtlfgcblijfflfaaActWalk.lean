/- Contract of act.Walk at a plan that leads to the goal. (Printed by wip/tools/actwalk.py.) -/
import Derived.Test.YtlfgcblijfflfaaActChk
import Derived.Test.YtlfgcblijfflfaaClone
import Derived.Test.YtlfgcblijfflfaaGrid
import Derived.Test.YtlfgcblijfflfaaTail
namespace Go.Proofs.Ytlfgcblijfflfaa
open Go.RowKit
set_option linter.unusedSimpArgs false
set_option linter.unusedVariables false

theorem bool_info_w : (Try.prog.info? 4).map (fun i => (i.zero, i.size, i.bytes)) = some (some (.bool false), 1, 1) := by kernel_rfl
def RetWalk (w : World) (e : Ending) (w' : World) : Prop := ∃ X nx cx, e = .returned (.tuple #[.slice X nx cx, .bool true, .agg #[.int .i64 0, .int .i64 0]]) ∧ Below w.heap.size w w'
theorem own_base_w {e : TypeId} {w : World} {base n c k : Nat} {A : Option Addr} {xs : List Value} (h : Own e w base A n c xs) (hk : blockOf A = some k) : base ≤ k := by
  rcases h.form with ⟨rfl, _⟩ | ⟨g', _, rfl, hg', _⟩
  · cases hk
  · cases hk; exact hg'

set_option maxHeartbeats 4000000 in
set_option maxRecDepth 100000 in
theorem walk_goal (q : Qv) (f0 g s1 : Nat) (al : List Ac) (P : Option Addr) (np cp : Nat) (p : List Nat) (w : World) (h : QstR w q f0 g al) (hP : Ints w P np cp (p.map (fun k : Nat => (k : Int)))) (hp : np ≤ 20) (hw : walkF al p f0 = some s1) (hg : s1 &&& g = g) :
    Calls Try.prog 8 #[.agg #[.int .i64 4, .slice q.F q.nF q.cF, .slice q.G q.nG q.cG, .slice q.A q.n q.c], .slice P np cp] w (RetWalk w) := by
  have H := Lib.hid h
  have HP := Lib.hid hP
  have HWK : Hid (walkF al (p.drop 0) f0 = some s1) := hw
  have HG := Lib.hid hg
  have hpl : Hid (p.length = np) := by have := hP.len; rw [List.length_map] at this; exact this
  have hn3 := h.n3
  obtain ⟨ib, hib, bz0, bz1, bz2⟩ := info_parts bool_info_w
  obtain ⟨w0, hw0⟩ : ∃ z : World, Hid (z = (w.alloc (.cells #[.int .i64 4, .slice q.F q.nF q.cF, .slice q.G q.nG q.cG, .slice q.A q.n q.c] 25)).alloc (.cells #[.int .i64 0, .int .i64 0] 28)) := ⟨_, rfl⟩
  have hb0 : Below w.heap.size w w0 := by rw [hw0.out]; exact below_alloc (below_new _ _) _
  have HK : Hid (Blk w0 w.heap.size 25 #[.int .i64 4, .slice q.F q.nF q.cF, .slice q.G q.nG q.cG, .slice q.A q.n q.c]) := by rw [Hid, hw0.out]; exact (Blk.new _ _ _).alloc _
  have HF : Hid (Blk w0 (w.heap.size + 1) 28 #[.int .i64 0, .int .i64 0]) := by rw [hw0.out]; have := Blk.new (w.alloc (.cells #[.int .i64 4, .slice q.F q.nF q.cF, .slice q.G q.nG q.cG, .slice q.A q.n q.c] 25)) 28 #[.int .i64 0, .int .i64 0]; simpa [Hid] using this
  have HB := Lib.hid hb0
  have HQ := Lib.hid (h.keep hb0)
  have HPP := Lib.hid (hP.keep hb0)
  have v20 : ¬ (20 : Int) < (np : Int) := by omega
  have v200 : decide ((20 : Int) < (np : Int)) = false := decide_eq_false v20
  clear h hb0 hP hw hg
  have hk_c0 := HK.out.cell 0
  have hk_c1 := HK.out.cell 1
  have hk_c2 := HK.out.cell 2
  have hk_c3 := HK.out.cell 3
  have hk_l := HK.out.lt
  simp at hk_c0 hk_c1 hk_c2 hk_c3
  go_enter Try.func8, Try.ntmps8
  go_wp2_with fail
  rw [← hw0.out]
  skip
  refine (chk_quest q f0 g al w0 HQ.out).mono ?_
  rintro e wq0 ⟨rfl, hbq⟩
  have HK_0 := Lib.hid (HK.out.keep hbq)
  have HF_0 := Lib.hid (HF.out.keep hbq)
  have HQ_0 := Lib.hid (HQ.out.keep hbq)
  have HPP_0 := Lib.hid (HPP.out.keep hbq)
  have HB_0 := Lib.hid (below_next HB.out hbq)
  clear hbq HK HF HQ HPP HB hk_c0 hk_c1 hk_c2 hk_c3 hk_l
  have hk_c0 := HK_0.out.cell 0
  have hk_c1 := HK_0.out.cell 1
  have hk_c2 := HK_0.out.cell 2
  have hk_c3 := HK_0.out.cell 3
  have hk_l := HK_0.out.lt
  simp at hk_c0 hk_c1 hk_c2 hk_c3
  go_wp2_with fail
  obtain ⟨wq1, hwwq1⟩ : ∃ z : World, z = wq0.alloc (.cells #[.int .i64 0, .int .i64 0] 28) := ⟨_, rfl⟩
  have hbq : Below wq0.heap.size wq0 wq1 := by rw [hwwq1]; exact below_new _ _
  have HK_1 := Lib.hid (HK_0.out.keep hbq)
  have HF_1 := Lib.hid (HF_0.out.keep hbq)
  have HQ_1 := Lib.hid (HQ_0.out.keep hbq)
  have HPP_1 := Lib.hid (HPP_0.out.keep hbq)
  have HB_1 := Lib.hid (below_next HB_0.out hbq)
  clear hbq HK_0 HF_0 HQ_0 HPP_0 HB_0 hk_c0 hk_c1 hk_c2 hk_c3 hk_l
  rw [← hwwq1]
  clear hwwq1
  skip
  refine (bits_any q.F q.nF q.cF f0 wq1 HQ_1.out.iF H.out.f16).mono ?_
  rintro e wq2 ⟨rfl, mq, hmq⟩
  have hbq : Below wq1.heap.size wq1 wq2 := by rw [hmq]; exact below_drewN _ _
  clear hmq
  have HK_2 := Lib.hid (HK_1.out.keep hbq)
  have HF_2 := Lib.hid (HF_1.out.keep hbq)
  have HQ_2 := Lib.hid (HQ_1.out.keep hbq)
  have HPP_2 := Lib.hid (HPP_1.out.keep hbq)
  have HB_2 := Lib.hid (below_next HB_1.out hbq)
  clear hbq HK_1 HF_1 HQ_1 HPP_1 HB_1 
  have hk_c0 := HK_2.out.cell 0
  have hk_c1 := HK_2.out.cell 1
  have hk_c2 := HK_2.out.cell 2
  have hk_c3 := HK_2.out.cell 3
  have hk_l := HK_2.out.lt
  simp at hk_c0 hk_c1 hk_c2 hk_c3
  go_wp2_with fail
  go_loopw [8, 29] (fun s8 s29 wr => ∃ (i s : Nat), i ≤ np ∧ s8 = .int .i64 s ∧ s29 = .int .i64 i ∧ s < 16 ∧ Hid (Below w.heap.size w wr) ∧ Hid (Blk wr w.heap.size 25 #[.int .i64 4, .slice q.F q.nF q.cF, .slice q.G q.nG q.cG, .slice q.A q.n q.c]) ∧ Hid (Blk wr (w.heap.size + 1) 28 #[.int .i64 0, .int .i64 0]) ∧ Hid (walkF al (p.drop i) s = some s1)) (fun _ s _ => np - (intOf s).toNat)
  case atStart => exact ⟨0, f0, Nat.zero_le _, rfl, rfl, H.out.f16, HB_2, HK_2, HF_2, HWK⟩
  case round =>
    clear HK_2 HF_2 HQ_2 HPP_2 HB_2 HWK hk_c0 hk_c1 hk_c2 hk_c3 hk_l
    obtain ⟨i, s, hi, rfl, rfl, hs16, HB, HK, HF, HWL⟩ := hrel
    by_cases hlt : i < np
    · have HR := Lib.hid (H.out.keep HB.out)
      have hx := HP.out.keep HB.out
      obtain ⟨b, off, y, hLe, hbb, hcell, y1, y2, hy⟩ := hx.round hlt
      have hil : i < p.length := by rw [hpl.out]; exact hlt
      obtain ⟨k, hk⟩ : ∃ k, Hid (p[i]? = some k) := ⟨p[i], List.getElem?_eq_getElem hil⟩
      obtain rfl : y = (k : Int) := by have h9 := hy.out; rw [List.getElem?_map, hk.out] at h9; simpa using h9.symm
      have hstep := HWL.out
      rw [drop_cons_of hk.out, walkF] at hstep
      have hkal : k < al.length := by
        rcases Nat.lt_or_ge k al.length with h9 | h9
        · exact h9
        · rw [if_neg (by omega)] at hstep; cases hstep
      rw [if_pos hkal] at hstep
      obtain ⟨s2, hs2⟩ : ∃ s2, appF (acAt al k) s = some s2 := by
        cases e : appF (acAt al k) s with
        | none => rw [e] at hstep; cases hstep
        | some x => exact ⟨x, rfl⟩
      rw [hs2] at hstep
      have HST : Hid (walkF al (p.drop (i + 1)) s2 = some s1) := hstep
      have hka : al[k]? = some (acAt al k) := by unfold acAt; rw [List.getD_eq_getElem?_getD, List.getElem?_eq_getElem hkal]; rfl
      obtain ⟨a, ha⟩ : ∃ a, acAt al k = a := ⟨_, rfl⟩
      rw [ha] at hka hs2
      obtain ⟨b2, v, hAe, hat⟩ := HR.out.acts.2 k a hka
      have HOK := Lib.hid (H.out.ok a (List.mem_of_getElem? hka))
      have HS2 := Lib.hid hs2
      have hs216 := app_lt HOK.out hs16 hs2
      have HAT := Lib.hid hat
      have c0 := hat.k0
      have c1 := hat.k1
      have c2 := hat.k2
      have c3 := hat.k3
      have c4 := (cell_lt c0).1
      have hkn : k < q.n := by rw [← HR.out.acts.1]; exact hkal
      have q0 : (0 : Int) ≤ (i : Int) := by omega
      have q1 : (i : Int) < (np : Int) := by omega
      have q2 : (k : Int) < (q.n : Int) := by omega
      have q3 : (0 : Int) ≤ (k : Int) := by omega
      have q4 : ¬ (k : Int) < 0 := by omega
      have q44 : decide ((k : Int) < 0) = false := decide_eq_false q4
      have q5 : decide ((q.n : Int) ≤ (k : Int)) = false := decide_eq_false (by omega)
      rw [hAe] at HK ⊢
      have k0 := HK.out.cell 0
      have k3 := HK.out.cell 3
      have k4 := HK.out.lt
      simp at k0 k3
      subst hLe
      clear hat ha hka HR hx hy hstep hs2 hil hkal
      go_wp2_with fail
      refine (apply_some v a s s2 wr HAT.out.i0 HAT.out.i1 HAT.out.i2 HAT.out.i3 HOK.out hs16 HS2.out).mono ?_
      rintro e wq0 ⟨rfl, hbq⟩
      have HK_0 := Lib.hid (HK.out.keep hbq)
      have HF_0 := Lib.hid (HF.out.keep hbq)
      have HB_0 := Lib.hid (below_next HB.out hbq)
      clear hbq HK HF HB  c0 c1 c2 c3 c4 k0 k3 k4
      go_wp2_with fail
      go_roundw
      case rel => exact ⟨i + 1, s2, by omega, rfl, by go_num, hs216, HB_0, HK_0, HF_0, HST⟩
      case measure => simp [intOf] <;> omega
    · have q1 : ¬ (i : Int) < (np : Int) := by omega
      obtain rfl : i = np := by omega
      obtain rfl : s = s1 := by have h9 := HWL.out; rw [List.drop_of_length_le (by rw [hpl.out]; exact Nat.le_refl _)] at h9; simpa [walkF] using h9
      clear HWL
      have hk_c0 := HK.out.cell 0
      have hk_c1 := HK.out.cell 1
      have hk_c2 := HK.out.cell 2
      have hk_c3 := HK.out.cell 3
      have hk_l := HK.out.lt
      simp at hk_c0 hk_c1 hk_c2 hk_c3
      obtain ⟨wo, hwo⟩ : ∃ z : World, z = wr := ⟨_, rfl⟩
      subst hwo
      go_wp2_with fail
      go_loopw [12, 62] (fun s12 s62 wr => ∃ (j cb : Nat) (X : Option Addr) (l : List Bool), j ≤ 4 ∧ s12 = .slice X j cb ∧ s62 = .int .i64 j ∧ Hid (Below w.heap.size w wr) ∧ Hid (Blk wr w.heap.size 25 #[.int .i64 4, .slice q.F q.nF q.cF, .slice q.G q.nG q.cG, .slice q.A q.n q.c]) ∧ Hid (Blk wr (w.heap.size + 1) 28 #[.int .i64 0, .int .i64 0]) ∧ Hid (Own 4 wr (w.heap.size + 2) X j cb (l.map Value.bool))) (fun _ s _ => 4 - (intOf s).toNat)
      case atStart => exact ⟨0, 0, none, [], Nat.zero_le _, rfl, rfl, HB, HK, HF, Own.nil _ _ _⟩
      case round =>
        clear HK HF HB hk_c0 hk_c1 hk_c2 hk_c3 hk_l
        obtain ⟨j, cb, X, l, hj, rfl, rfl, HB, HK, HF, HO⟩ := hrel
        by_cases hlt : j < 4
        · have v0 : (0 : Int) ≤ (j : Int) := by omega
          have v1 : (j : Int) < 4 := by omega
          have vn : (j : Int).toNat = j := by omega
          obtain ⟨bv, hbv⟩ : ∃ b : Bool, (bits .and .i64 ((s : Int) / 2 ^ j) 1 == 1) = b := ⟨_, rfl⟩
          have HSL := Lib.hid (sl_one wr 4 (.bool bv) rfl)
          have hb4 := below_new wr (.cells #[.bool bv] 4)
          have HOn := Lib.hid (HO.out.keep hb4)
          have HKn := Lib.hid (HK.out.keep hb4)
          have HFn := Lib.hid (HF.out.keep hb4)
          have HBn := Lib.hid (below_next HB.out hb4)
          have hsz := HB.out.size
          have hsk := HF.out.lt
          clear hb4 HO HK HF
          go_wp2_with (first
            | (at_builtin
               refine wpList_append_sl _ rfl (.tmp 65) (.tmp 71) _ rfl (w.heap.size + 2) 4 ib _ 1 Try.underlying34 hib bz0 bz1 bz2 rfl X j cb _ rfl HOn.out (some ⟨wr.heap.size, 0, none⟩) 1 1 _ rfl HSL.out (by simp [Value.oneCell']) (by simp only [maxLen]; omega) (by omega) (by simp; omega) ?_
               intro L1 c1 w9 hL1 hg1 hat1
               have HL1 : Hid (Own 4 w9 (w.heap.size + 2) L1 (j + 1) c1 ((l ++ [bv]).map Value.bool)) := by rw [List.map_append]; exact hL1
               have HB9 : Hid (Below w.heap.size w w9) := HBn.out.grown hg1 HBn.out.size (fun z hz => by have := own_base_w HOn.out hz; omega)
               have HK9 := Lib.hid (HKn.out.grown hg1 (fun e => by have := own_base_w HOn.out e.symm; omega))
               have HF9 := Lib.hid (HFn.out.grown hg1 (fun e => by have := own_base_w HOn.out e.symm; omega))
               clear hL1 hg1 hat1))
          go_roundw
          case rel => exact ⟨j + 1, c1, L1, l ++ [bv], by omega, rfl, by go_num, HB9, HK9, HF9, HL1⟩
          case measure => simp [intOf] <;> omega
        · have v1 : ¬ (j : Int) < 4 := by omega
          obtain rfl : j = 4 := by omega
          clear HO
          obtain ⟨IG, hIG⟩ : ∃ P : Prop, P = Ints wr q.G q.nG q.cG (someF g) := ⟨_, rfl⟩
          have HIG := Lib.hid ((H.out.iG).keep HB.out)
          clear hIG
          have hba := and_n hs16 H.out.g16
          rw [HG.out] at hba
          go_wp2_with fail
          obtain ⟨wz, hwz⟩ : ∃ z : World, z = wr.drew := ⟨_, rfl⟩
          have hbz : Below wr.heap.size wr wz := by rw [hwz]; exact below_drewN _ 1
          have HKz := Lib.hid (HK.out.keep hbz)
          have HFz := Lib.hid (HF.out.keep hbz)
          have HBz := Lib.hid (below_next HB.out hbz)
          have HIz := Lib.hid (HIG.out.keep hbz)
          have kz2 := HKz.out.cell 2
          have kz4 := HKz.out.lt
          simp at kz2
          have hS : wz.cell? ⟨w.heap.size, 2, none⟩ = some (.slice q.G q.nG q.cG) ∧ w.heap.size < wz.heap.size := ⟨kz2, kz4⟩
          clear HK HF HB HIG hbz
          refine wp_region_tail (fun w' => w'.cell? ⟨w.heap.size, 2, none⟩ = some (.slice q.G q.nG q.cG) ∧ w.heap.size < w'.heap.size) [13] (by kernel_rfl) ?_
          change wpAnyT _ _ _ _ _ _ _ _ _ wr.drew
          rw [← hwz]
          clear hwz
          refine take0 (i := 0) (oi := _) (v := ?_) rfl (by kernel_rfl) (by kernel_rfl) (by kernel_rfl) (fun _ _ _ h => h) rfl (Or.inl ⟨by rfl, ?_⟩) (fun _ => hS) ?_
          rotate_left
          · intro w0; go_simp; with_reducible rfl
          (try simp only [Act.put, List.setIfInBounds_toArray, List.set_cons_zero, List.set_cons_succ])
          refine take0 (i := 1) (oi := _) (v := ?_) rfl (by kernel_rfl) (by kernel_rfl) (by kernel_rfl) (fun _ _ _ h => h) rfl (Or.inl ⟨by rfl, ?_⟩) (fun _ => hS) ?_
          rotate_left
          · intro w0; go_simp; with_reducible rfl
          (try simp only [Act.put, List.setIfInBounds_toArray, List.set_cons_zero, List.set_cons_succ])
          refine take0 (i := 2) (oi := _) (v := ?_) rfl (by kernel_rfl) (by kernel_rfl) (by kernel_rfl) (fun _ _ _ h => h) rfl (Or.inl ⟨by rfl, ?_⟩) (fun _ => hS) ?_
          rotate_left
          · intro w0; go_simp; with_reducible rfl
          (try simp only [Act.put, List.setIfInBounds_toArray, List.set_cons_zero, List.set_cons_succ])
          refine takeS (i := 3) (oi := _) (v := ?_) rfl (by kernel_rfl) (by kernel_rfl) (by kernel_rfl) (fun _ _ _ h => h) rfl (by kernel_rfl) (by kernel_rfl) (Or.inl ⟨by rfl, ?_⟩) hS ?_
          rotate_left
          · intro w0 hSw; (try dsimp only at hSw); go_simp; with_reducible rfl
          (try simp only [Act.put, List.setIfInBounds_toArray, List.set_cons_zero, List.set_cons_succ])
          refine take0 (i := 6) (oi := _) (v := ?_) rfl (by kernel_rfl) (by kernel_rfl) (by kernel_rfl) (fun _ _ _ h => h) rfl (Or.inl ⟨by rfl, ?_⟩) (fun _ => hS) ?_
          rotate_left
          · intro w0; go_simp; with_reducible rfl
          (try simp only [Act.put, List.setIfInBounds_toArray, List.set_cons_zero, List.set_cons_succ])
          refine takeS (i := 7) (oi := _) (v := ?_) rfl (by kernel_rfl) (by kernel_rfl) (by kernel_rfl) (fun _ _ _ h => h) rfl (by kernel_rfl) (by kernel_rfl) (Or.inl ⟨by rfl, ?_⟩) hS ?_
          rotate_left
          · intro w0 hSw; (try dsimp only at hSw); go_simp; with_reducible rfl
          (try simp only [Act.put, List.setIfInBounds_toArray, List.set_cons_zero, List.set_cons_succ])
          refine take0 (i := 10) (oi := _) (v := ?_) rfl (by kernel_rfl) (by kernel_rfl) (by kernel_rfl) (fun _ _ _ h => h) rfl (Or.inl ⟨by rfl, ?_⟩) (fun _ => hS) ?_
          rotate_left
          · intro w0; go_simp; with_reducible rfl
          (try simp only [Act.put, List.setIfInBounds_toArray, List.set_cons_zero, List.set_cons_succ])
          refine oneT (i := 4) (by kernel_rfl) rfl (by rfl) (fun K hK => ?_)
          go_simp
          refine (bits_any q.G q.nG q.cG g wz HIz.out H.out.g16).mono ?_
          rintro e v4_ ⟨rfl, mq, hmq⟩
          have hbv : Below wz.heap.size wz v4_ := by rw [hmq]; exact below_drewN _ _
          have HK4 := Lib.hid (HKz.out.keep hbv)
          have HF4 := Lib.hid (HFz.out.keep hbv)
          have HB4 := Lib.hid (below_next HBz.out hbv)
          have HI4 := Lib.hid (HIz.out.keep hbv)
          have kz2 := HK4.out.cell 2
          have kz4 := HK4.out.lt
          simp at kz2
          have hS : v4_.cell? ⟨w.heap.size, 2, none⟩ = some (.slice q.G q.nG q.cG) ∧ w.heap.size < v4_.heap.size := ⟨kz2, kz4⟩
          clear hmq hbv
          refine hK _ _ (fun _ => hS) ?_
          clear hK
          (try simp only [Act.put, List.setIfInBounds_toArray, List.set_cons_zero, List.set_cons_succ])
          refine take0 (i := 5) (oi := _) (v := ?_) rfl (by kernel_rfl) (by kernel_rfl) (by kernel_rfl) (fun _ _ _ h => h) rfl (Or.inl ⟨by rfl, ?_⟩) (fun _ => hS) ?_
          rotate_left
          · intro w0; go_simp; with_reducible rfl
          (try simp only [Act.put, List.setIfInBounds_toArray, List.set_cons_zero, List.set_cons_succ])
          refine oneT (i := 8) (by kernel_rfl) rfl (by rfl) (fun K hK => ?_)
          go_simp
          refine (bits_any q.G q.nG q.cG g v4_ HI4.out H.out.g16).mono ?_
          rintro e v8_ ⟨rfl, mq, hmq⟩
          have hbv : Below v4_.heap.size v4_ v8_ := by rw [hmq]; exact below_drewN _ _
          have HK8 := Lib.hid (HK4.out.keep hbv)
          have HF8 := Lib.hid (HF4.out.keep hbv)
          have HB8 := Lib.hid (below_next HB4.out hbv)
          have HI8 := Lib.hid (HI4.out.keep hbv)
          have kz2 := HK8.out.cell 2
          have kz4 := HK8.out.lt
          simp at kz2
          have hS : v8_.cell? ⟨w.heap.size, 2, none⟩ = some (.slice q.G q.nG q.cG) ∧ w.heap.size < v8_.heap.size := ⟨kz2, kz4⟩
          clear hmq hbv
          refine hK _ _ (fun _ => hS) ?_
          clear hK
          (try simp only [Act.put, List.setIfInBounds_toArray, List.set_cons_zero, List.set_cons_succ])
          refine take0 (i := 9) (oi := _) (v := ?_) rfl (by kernel_rfl) (by kernel_rfl) (by kernel_rfl) (fun _ _ _ h => h) rfl (Or.inl ⟨by rfl, ?_⟩) (fun _ => hS) ?_
          rotate_left
          · intro w0; go_simp; with_reducible rfl
          (try simp only [Act.put, List.setIfInBounds_toArray, List.set_cons_zero, List.set_cons_succ])
          refine take0 (i := 11) (oi := _) (v := ?_) rfl (by kernel_rfl) (by kernel_rfl) (by kernel_rfl) (fun _ _ _ h => h) rfl (Or.inl ⟨by rfl, ?_⟩) (fun _ => hS) ?_
          rotate_left
          · intro w0; go_simp; with_reducible rfl
          (try simp only [Act.put, List.setIfInBounds_toArray, List.set_cons_zero, List.set_cons_succ])
          refine take0 (i := 12) (oi := _) (v := ?_) rfl (by kernel_rfl) (by kernel_rfl) (by kernel_rfl) (fun _ _ _ h => h) rfl (Or.inl ⟨by rfl, ?_⟩) (fun _ => hS) ?_
          rotate_left
          · intro w0; go_simp; with_reducible rfl
          (try simp only [Act.put, List.setIfInBounds_toArray, List.set_cons_zero, List.set_cons_succ])
          refine oneT (i := 13) (by kernel_rfl) rfl (by rfl) (fun K hK => ?_)
          have e0 := HF8.out.cell 0
          have e1 := HF8.out.cell 1
          have g0 := HF8.out.frozen 0
          have g1 := HF8.out.frozen 1
          simp at e0 e1
          have le := HF8.out.lt
          go_simp
          refine hK _ _ (noT_no (by kernel_rfl)) ?_
          clear hK
          (try simp only [Act.put, List.setIfInBounds_toArray, List.set_cons_zero, List.set_cons_succ])
          refine doneT (by kernel_rfl) ?_ _
          go_wp2_with fail
          exact bodyPost_ret (v := .tuple #[.slice X 4 cb, .bool true, .agg #[.int .i64 0, .int .i64 0]]) (by simp [results, Try.results8, go_sem, e0, e1, le]) rfl ⟨X, 4, cb, rfl, below_put2 HB8.out (g := w.heap.size + 1) (Nat.le_succ _) _ _⟩
end Go.Proofs.Ytlfgcblijfflfaa
