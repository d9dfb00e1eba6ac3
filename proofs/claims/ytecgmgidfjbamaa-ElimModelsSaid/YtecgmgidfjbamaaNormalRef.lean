/- Contract of the reference's Normal. (Printed by wip/tools/normalref.py.) -/
import Derived.Test.YtecgmgidfjbamaaNormal
import Derived.Test.YtecgmgidfjbamaaTail
namespace Go.Proofs.Ytecgmgidfjbamaa
open Go.RowKit
set_option linter.unusedSimpArgs false

theorem normF_snoc (l : List (List Int)) (x : List Int) : normF (l ++ [x]) = insR (sortF x) (normF l) := by unfold normF; rw [List.foldl_append]; rfl
theorem insR_step {o : List (List Int)} {p : Nat} {x y : List Int} (hy : o[p]? = some y) (h : befB y x = true) : o.take p ++ insR x (o.drop p) = o.take (p + 1) ++ insR x (o.drop (p + 1)) := by
  rw [drop_cons_of hy, insR, if_pos h, take_snoc_of hy]; simp
theorem insR_same {o : List (List Int)} {p : Nat} {x y : List Int} (hy : o[p]? = some y) (h : befB y x = false) (he : y = x) : o.take p ++ insR x (o.drop p) = o := by
  rw [drop_cons_of hy, insR, if_neg (by simp [h]), if_pos he, ← drop_cons_of hy, List.take_append_drop]
theorem insR_stop {o : List (List Int)} {p : Nat} {x y : List Int} (hy : o[p]? = some y) (h : befB y x = false) (he : y ≠ x) : o.take p ++ insR x (o.drop p) = o.take p ++ [x] ++ o.drop p := by
  rw [drop_cons_of hy, insR, if_neg (by simp [h]), if_neg he]; simp
theorem insR_end {o : List (List Int)} {p : Nat} {x : List Int} (h : o.length ≤ p) : o.take p ++ insR x (o.drop p) = o.take p ++ [x] ++ o.drop p := by
  rw [List.drop_of_length_le h]; simp [insR]

theorem RowsP.one1 {t : TypeId} {w : World} {low n c : Nat} {A : Option Addr} {xs : List Int} (hi : Ints w A n c xs) (ha : Away t w low A n) : RowsP t w low [Value.slice A n c] [xs] := by
  have h0 : RowsP t w low [] [] := ⟨rfl, by simp⟩
  exact h0.snoc hi ha
set_option maxHeartbeats 8000000 in
set_option maxRecDepth 100000 in
theorem normal_ref (A : Option Addr) (n c : Nat) (xss : List (List Int)) (w : World) (h : Grid w A n c xss) (hs : ∀ xs ∈ xss, ∀ x ∈ xs, -1000000 ≤ x ∧ x ≤ 1000000) (hw : ∀ xs ∈ xss, xs.length ≤ 1000000) (hn : n ≤ 1000000) :
    Calls Try.prog 28 #[.slice A n c] w (RetNorm xss w) := by
  have hbd := h.bd
  have hlen := Lib.hid h.len
  obtain ⟨i0, hi0, hz0, hz1, hz2⟩ := info_parts row_info
  have G := Lib.hid h
  have HS := Lib.hid hs
  have HW := Lib.hid hw
  clear h hs hw
  go_enter Try.func28, Try.ntmps28
  go_wp2_with fail
  go_loopw [3, 4] (fun o i wr => ∃ (k nl cl : Nat) (Lf : Option Addr), k ≤ n ∧ nl ≤ k ∧ o = .slice Lf nl cl ∧ i = .int .i64 k ∧ Hid (OwnP 26 3 wr w.heap.size 0 Lf nl cl (normF (xss.take k))) ∧ Hid (Below w.heap.size w wr)) (fun _ i _ => n - (intOf i).toNat)
  case atStart => exact ⟨0, 0, 0, none, Nat.zero_le _, Nat.le_refl _, rfl, rfl, OwnP.nil _ _ _ _ _, Below.refl _ _⟩
  case round =>
    obtain ⟨k, nl, cl, Lf, hk, hnl, rfl, rfl, hown, hbl⟩ := hrel
    obtain ⟨wo, hwo⟩ : ∃ wo : World, wo = wr := ⟨_, rfl⟩
    subst hwo
    have hwz := hbl.out.size
    by_cases hlt : k < n
    · obtain ⟨b, off, X0, nx0, cx0, x0, hLe, hb, hcell, hx, hxk⟩ := (G.out.keep hbl.out).round hlt
      subst hLe
      have hxm := List.mem_of_getElem? hxk.out
      have HXB := Lib.hid (HS.out x0 hxm)
      have hnx : nx0 ≤ 1000000 := by have h1 := hx.len; have h2 := HW.out x0 hxm; omega
      have HX := Lib.hid hx
      have y1 : (0 : Int) ≤ (k : Int) := by omega
      have y2 : (k : Int) < (n : Int) := by omega
      obtain ⟨o, ho⟩ : ∃ o, Hid (normF (xss.take k) = o) := ⟨_, rfl⟩
      obtain ⟨x, hxs⟩ : ∃ x, Hid (sortF x0 = x) := ⟨_, rfl⟩
      have hnext : Hid (normF (xss.take (k + 1)) = insR x o) := by rw [take_snoc_of hxk.out, normF_snoc, ho.out, hxs.out]; rfl
      have HOB : Hid (∀ y ∈ o, ∀ z ∈ y, -1000000 ≤ z ∧ z ≤ 1000000) := fun y hy z hz => by
        rw [← ho.out] at hy
        obtain ⟨u, hu, rfl⟩ := normF_mem.1 hy
        exact HS.out u (List.mem_of_mem_take hu) z (sortF_mem.1 hz)
      have HXB2 : Hid (∀ z ∈ x, -1000000 ≤ z ∧ z ≤ 1000000) := fun z hz => by rw [← hxs.out] at hz; exact HXB.out z (sortF_mem.1 hz)
      rw [ho.out] at hown
      clear hx hxm ho
      go_wp2_with fail
      refine (sorted_ref _ _ _ x0 _ HX.out HXB.out hnx).mono ?_
      rintro e w3 ⟨X, nx, cx, rfl, hown3, hb3⟩
      rw [hxs.out] at hown3
      have OW := Lib.hid (hown.out.keep hb3)
      have BL := Lib.hid (below_next hbl.out hb3)
      have OX := Lib.hid hown3
      have IX := Lib.hid (hown3.ints (fun q hq => (by have := HXB2.out q hq; unfold I64; omega)))
      obtain ⟨hol, hnc, hc63⟩ := OW.out.len'
      have HOL := Lib.hid hol
      have hw3 := BL.out.size
      clear hown3 hb3 hown hbl hcell hb HX HXB hwz hol
      go_wp2_with fail
      go_loopw [6] (fun i wr => ∃ p : Nat, p ≤ nl ∧ i = .int .i64 p ∧ Hid (∃ m, wr = w3.drewN m) ∧ Hid (o.take p ++ insR x (o.drop p) = insR x o)) (fun i _ => nl - (intOf i).toNat)
      case atStart => exact ⟨0, Nat.zero_le _, rfl, ⟨0, rfl⟩, by simp [Hid]⟩
      case round =>
        obtain ⟨p, hp, rfl, hB, hins⟩ := hrel
        have hbW : Below w3.heap.size w3 wr := by obtain ⟨m, rfl⟩ := hB.out; exact below_drewN w3 m
        have ownW := Lib.hid (OW.out.keep hbW)
        have blW := Lib.hid (below_next BL.out hbW)
        have IXW := Lib.hid (IX.out.keep hbW)
        have OXW := Lib.hid (OX.out.keep hbW)
        have y3 : (0 : Int) ≤ (p : Int) := by omega
        have y4 : (p : Int) ≤ (nl : Int) := by omega
        have y5 : (p : Int) ≤ (cl : Int) := by omega
        clear hbW
        by_cases hpk : p < nl
        · have dp : decide (p < nl) = true := decide_eq_true hpk
          obtain ⟨g, Y, ny, cy, y, hLe, hg0, hgl, hcy, hfy, hy, _, hyp⟩ := ownW.out.round hpk
          have hyb := HOB.out y (List.mem_of_getElem? hyp.out)
          have HYB := Lib.hid hyb
          have HY := Lib.hid hy
          subst hLe
          have y6 : (p : Int) < (nl : Int) := by omega
          obtain ⟨q, hq⟩ : ∃ q, Hid (befB y x = q) := ⟨_, rfl⟩
          clear hyb hy
          go_wp2_with fail
          refine (before_ref _ _ _ _ _ _ y x _ HY.out IXW.out HYB.out HXB2.out q hq).mono ?_
          rintro e w4 ⟨rfl, m4, rfl⟩
          cases q
          · obtain ⟨s, hsm⟩ : ∃ s, Hid (sameB y x = s) := ⟨_, rfl⟩
            have hcy4 := keepBox (below_drewN wr m4) hcy
            have hgl4 : g < (wr.drewN m4).heap.size := hgl
            go_wp2_with fail
            refine (same_any _ _ _ _ _ _ y x _ (HY.out.drewN m4) (IXW.out.drewN m4) s hsm).mono ?_
            rintro e w5 ⟨rfl, m5, rfl⟩
            cases s
            · have hne : y ≠ x := fun e => by have := hsm.out; rw [e] at this; simp [sameB] at this
              have hfin : Hid (insR x o = o.take p ++ [x] ++ o.drop p) := by rw [← insR_stop hyp.out hq.out hne]; exact hins.out.symm
              have eqw : (wr.drewN m4).drewN m5 = wr.drewN (m4 + m5) := World.drewN_drewN _ _ _
              (try rw [eqw])
              obtain ⟨nq, hnq⟩ : ∃ nq, nq = m4 + m5 := ⟨_, rfl⟩
              (try rw [← hnq])
              clear eqw hnq hcy4 hgl4
              go_wp2_with fail
              obtain ⟨wq, hwq⟩ : ∃ wq : World, wq = wr.drewN nq := ⟨_, rfl⟩
              have hbq : Below wr.heap.size wr wq := by rw [hwq]; exact below_drewN _ _
              have blq := Lib.hid (below_next blW.out hbq)
              have hwq2 := blq.out.size
              have IXq := Lib.hid (IXW.out.keep hbq)
              have OXq := Lib.hid (OXW.out.keep hbq)
              obtain ⟨vs, hv1, hv2⟩ := ownW.out.keep hbq
              have HRT := Lib.hid (hv2.take p)
              have HRD := Lib.hid (hv2.drop p)
              have HTO := Lib.hid HRT.out.one
              have HDO := Lib.hid HRD.out.one
              have hvl := Lib.hid hv1.len
              have hvs := Lib.hid hv1.sl
              have HTK : Hid (Sl wq (some ⟨g, 0, none⟩) p cl (vs.take p)) := hvs.out.take hp
              have HDR : Hid (Sl wq (some ⟨g, p, none⟩) (nl - p) (cl - p) (vs.drop p)) := by have := hvs.out.drop hp; simpa [Hid] using this
              have y7 : (cl : Int) ≠ (p : Int) := by omega
              have y8 : ¬ cl = p := by omega
              (try rw [← hwq])
              clear hwq hbq ownW blW hv1 hv2 IXW OXW
              have hS : True := trivial
              refine wp_region_tail (fun _ => True) [] (by kernel_rfl) ?_
              refine take0 (i := 1) (oi := _) (v := ?_) rfl (by kernel_rfl) (by kernel_rfl) (by kernel_rfl) (fun _ _ _ h => h) rfl (Or.inl ⟨by rfl, ?_⟩) (fun _ => hS) ?_
              rotate_left
              · intro w0; go_simp; with_reducible rfl
              (try simp only [Act.put, List.setIfInBounds_toArray, List.set_cons_zero, List.set_cons_succ])
              refine take0 (i := 2) (oi := _) (v := ?_) rfl (by kernel_rfl) (by kernel_rfl) (by kernel_rfl) (fun _ _ _ h => h) rfl (Or.inl ⟨by rfl, ?_⟩) (fun _ => hS) ?_
              rotate_left
              · intro w0; go_simp; with_reducible rfl
              (try simp only [Act.put, List.setIfInBounds_toArray, List.set_cons_zero, List.set_cons_succ])
              refine take0 (i := 3) (oi := _) (v := ?_) rfl (by kernel_rfl) (by kernel_rfl) (by kernel_rfl) (fun _ _ _ h => h) rfl (Or.inl ⟨by rfl, ?_⟩) (fun _ => hS) ?_
              rotate_left
              · intro w0; go_simp; with_reducible rfl
              (try simp only [Act.put, List.setIfInBounds_toArray, List.set_cons_zero, List.set_cons_succ])
              refine take0 (i := 5) (oi := _) (v := ?_) rfl (by kernel_rfl) (by kernel_rfl) (by kernel_rfl) (fun _ _ _ h => h) rfl (Or.inl ⟨by rfl, ?_⟩) (fun _ => hS) ?_
              rotate_left
              · intro w0; go_simp; with_reducible rfl
              (try simp only [Act.put, List.setIfInBounds_toArray, List.set_cons_zero, List.set_cons_succ])
              refine take0 (i := 8) (oi := _) (v := ?_) rfl (by kernel_rfl) (by kernel_rfl) (by kernel_rfl) (fun _ _ _ h => h) rfl (Or.inl ⟨by rfl, ?_⟩) (fun _ => hS) ?_
              rotate_left
              · intro w0; go_simp; with_reducible rfl
              (try simp only [Act.put, List.setIfInBounds_toArray, List.set_cons_zero, List.set_cons_succ])
              refine take0 (i := 9) (oi := _) (v := ?_) rfl (by kernel_rfl) (by kernel_rfl) (by kernel_rfl) (fun _ _ _ h => h) rfl (Or.inl ⟨by rfl, ?_⟩) (fun _ => hS) ?_
              rotate_left
              · intro w0; go_simp; with_reducible rfl
              (try simp only [Act.put, List.setIfInBounds_toArray, List.set_cons_zero, List.set_cons_succ])
              refine take0 (i := 10) (oi := _) (v := ?_) rfl (by kernel_rfl) (by kernel_rfl) (by kernel_rfl) (fun _ _ _ h => h) rfl (Or.inl ⟨by rfl, ?_⟩) (fun _ => hS) ?_
              rotate_left
              · intro w0; go_simp; with_reducible rfl
              (try simp only [Act.put, List.setIfInBounds_toArray, List.set_cons_zero, List.set_cons_succ])
              refine twoT (i := 0) (j := 6) (by kernel_rfl) rfl (by rfl) rfl (by rfl) (fun K hK => ?_) (fun K hK => ?_)
              · go_simp
                refine hK _ _ (fun _ => hS) ?_
                clear hK
                (try simp only [Act.put, List.setIfInBounds_toArray, List.set_cons_zero, List.set_cons_succ])
                refine twoT (i := 4) (j := 6) (by kernel_rfl) rfl (by rfl) rfl (by rfl) (fun K hK => ?_) (fun K hK => ?_)
                · refine wp_append_sl _ (.tmp 44) (.tmp 47) 22 rfl wq.heap.size 26 i0 _ 24 Try.underlying22 hi0 hz0 hz1 hz2 rfl (some ⟨wq.heap.size, 0, none⟩) 0 0 [] rfl (own_empty 26 wq wq.heap.size rfl (Nat.le_refl _)).drew1 (some ⟨g, 0, none⟩) p cl (vs.take p) rfl (HTK.out.keep (below_drew1 (below_new wq _))) HTO.out (by simp only [maxLen]; omega) (by omega) (by first | omega | (simp; done) | (simp; omega)) ?_
                  intro L1 cL1 w1 hO1 hG1 hA1
                  have HB1 := Lib.hid (below_grown (below_drew1 (below_new wq _)) (own_empty 26 wq wq.heap.size rfl (Nat.le_refl _)).drew1 (Nat.le_refl _) hG1)
                  have HG1 := Lib.hid hG1
                  have HO1 : Hid (Own 26 w1 wq.heap.size L1 p cL1 (vs.take p)) := by simpa [Hid] using hO1
                  have lw1 := HB1.out.size
                  clear hO1 hG1 hA1
                  refine hK _ _ (fun _ => hS) ?_
                  clear hK
                  (try simp only [Act.put, List.setIfInBounds_toArray, List.set_cons_zero, List.set_cons_succ])
                  refine oneT (i := 6) (by kernel_rfl) rfl (by rfl) (fun K hK => ?_)
                  go_simp
                  refine hK _ _ (fun _ => hS) ?_
                  clear hK
                  (try simp only [Act.put, List.setIfInBounds_toArray, List.set_cons_zero, List.set_cons_succ])
                  refine oneT (i := 7) (by kernel_rfl) rfl (by rfl) (fun K hK => ?_)
                  refine wp_append_sl _ (.tmp 48) (.tmp 50) 22 rfl wq.heap.size 26 i0 _ 24 Try.underlying22 hi0 hz0 hz1 hz2 rfl L1 p cL1 (vs.take p) rfl (HO1.out.keep (below_new w1 _)) (some ⟨w1.heap.size, 0, none⟩) 1 1 [.slice X nx cx] rfl (sl_one w1 26 (.slice X nx cx) rfl) (by simp [Value.oneCell']) (by simp only [maxLen]; omega) (by omega) (by first | omega | (simp; omega)) ?_
                  intro L2 cL2 w2 hO2 hG2 hA2
                  have HB2 := Lib.hid (below_grown (below_alloc HB1.out _) (HO1.out.keep (below_new w1 _)) (Nat.le_refl _) hG2)
                  have HO2 := Lib.hid hO2
                  have lw2 := HB2.out.size
                  clear hO2 hG2 hA2
                  refine hK _ _ (fun _ => hS) ?_
                  clear hK
                  (try simp only [Act.put, List.setIfInBounds_toArray, List.set_cons_zero, List.set_cons_succ])
                  refine oneT (i := 11) (by kernel_rfl) rfl (by rfl) (fun K hK => ?_)
                  refine wp_append_sl _ (.tmp 51) (.tmp 54) 22 rfl wq.heap.size 26 i0 _ 24 Try.underlying22 hi0 hz0 hz1 hz2 rfl L2 (p + 1) cL2 _ rfl HO2.out (some ⟨g, p, none⟩) (nl - p) (cl - p) (vs.drop p) rfl (HDR.out.keep HB2.out) HDO.out (by simp only [maxLen]; omega) (by omega) lw2 ?_
                  intro L3 cL3 w3' hO3 hG3 hA3
                  have HB3 := Lib.hid (below_grown HB2.out HO2.out (Nat.le_refl _) hG3)
                  have HO3 := Lib.hid hO3
                  clear hO3 hG3 hA3
                  refine hK _ _ (fun _ => hS) ?_
                  clear hK
                  (try simp only [Act.put, List.setIfInBounds_toArray, List.set_cons_zero, List.set_cons_succ])
                  refine take0 (i := 12) (oi := _) (v := ?_) rfl (by kernel_rfl) (by kernel_rfl) (by kernel_rfl) (fun _ _ _ h => h) rfl (Or.inl ⟨by rfl, ?_⟩) (fun _ => hS) ?_
                  rotate_left
                  · intro w0; go_simp; with_reducible rfl
                  (try simp only [Act.put, List.setIfInBounds_toArray, List.set_cons_zero, List.set_cons_succ])
                  refine doneT (by kernel_rfl) ?_ _
                  go_wp2_with fail
                  go_roundw
                  case rel =>
                    refine ⟨k + 1, p + 1 + (nl - p), cL3, L3, by omega, by omega, rfl, by go_num, ?_, below_next blq.out HB3.out⟩
                    rw [hnext.out, hfin.out]
                    refine ⟨_, HO3.out.mono hwq2, ?_⟩
                    exact ((HRT.out.append (RowsP.one1 IXq.out (Away.own OXq.out))).append HRD.out).keep HB3.out
                  case measure => simp [intOf]; omega
                · go_simp
                  refine hK _ _ (fun _ => hS) ?_
                  clear hK
                  (try simp only [Act.put, List.setIfInBounds_toArray, List.set_cons_zero, List.set_cons_succ])
                  refine oneT (i := 4) (by kernel_rfl) rfl (by rfl) (fun K hK => ?_)
                  refine wp_append_sl _ (.tmp 44) (.tmp 47) 22 rfl wq.heap.size 26 i0 _ 24 Try.underlying22 hi0 hz0 hz1 hz2 rfl (some ⟨wq.heap.size, 0, none⟩) 0 0 [] rfl ((own_empty 26 wq wq.heap.size rfl (Nat.le_refl _)).keep (below_new _ (.cells #[.slice X nx cx] 26))).drew1 (some ⟨g, 0, none⟩) p cl (vs.take p) rfl (HTK.out.keep (below_drew1 (below_alloc (below_new wq _) _))) HTO.out (by simp only [maxLen]; omega) (by omega) (by first | omega | (simp; done) | (simp; omega)) ?_
                  intro L1 cL1 w1 hO1 hG1 hA1
                  have HB1 := Lib.hid (below_grown (below_drew1 (below_alloc (below_new wq _) _)) ((own_empty 26 wq wq.heap.size rfl (Nat.le_refl _)).keep (below_new _ (.cells #[.slice X nx cx] 26))).drew1 (Nat.le_refl _) hG1)
                  have HG1 := Lib.hid hG1
                  have HO1 : Hid (Own 26 w1 wq.heap.size L1 p cL1 (vs.take p)) := by simpa [Hid] using hO1
                  have lw1 := HB1.out.size
                  clear hO1 hG1 hA1
                  refine hK _ _ (fun _ => hS) ?_
                  clear hK
                  (try simp only [Act.put, List.setIfInBounds_toArray, List.set_cons_zero, List.set_cons_succ])
                  (try simp only [Nat.zero_add])
                  refine oneT (i := 7) (by kernel_rfl) rfl (by rfl) (fun K hK => ?_)
                  refine wp_append_sl _ (.tmp 48) (.tmp 50) 22 rfl wq.heap.size 26 i0 _ 24 Try.underlying22 hi0 hz0 hz1 hz2 rfl L1 p cL1 (vs.take p) rfl HO1.out (some ⟨wq.heap.size + 1, 0, none⟩) 1 1 [.slice X nx cx] rfl (Sl.kept1 (Sl.drew1 (sl_one (wq.alloc (.cells #[] 26)) 26 (.slice X nx cx) (by simp))) HG1.out (.inr (by simp [blockOf]))) (by simp [Value.oneCell']) (by simp only [maxLen]; omega) (by omega) (by first | omega | (simp; omega)) ?_
                  intro L2 cL2 w2 hO2 hG2 hA2
                  have HB2 := Lib.hid (below_grown HB1.out HO1.out (Nat.le_refl _) hG2)
                  have HO2 := Lib.hid hO2
                  have lw2 := HB2.out.size
                  clear hO2 hG2 hA2
                  refine hK _ _ (fun _ => hS) ?_
                  clear hK
                  (try simp only [Act.put, List.setIfInBounds_toArray, List.set_cons_zero, List.set_cons_succ])
                  refine oneT (i := 11) (by kernel_rfl) rfl (by rfl) (fun K hK => ?_)
                  refine wp_append_sl _ (.tmp 51) (.tmp 54) 22 rfl wq.heap.size 26 i0 _ 24 Try.underlying22 hi0 hz0 hz1 hz2 rfl L2 (p + 1) cL2 _ rfl HO2.out (some ⟨g, p, none⟩) (nl - p) (cl - p) (vs.drop p) rfl (HDR.out.keep HB2.out) HDO.out (by simp only [maxLen]; omega) (by omega) lw2 ?_
                  intro L3 cL3 w3' hO3 hG3 hA3
                  have HB3 := Lib.hid (below_grown HB2.out HO2.out (Nat.le_refl _) hG3)
                  have HO3 := Lib.hid hO3
                  clear hO3 hG3 hA3
                  refine hK _ _ (fun _ => hS) ?_
                  clear hK
                  (try simp only [Act.put, List.setIfInBounds_toArray, List.set_cons_zero, List.set_cons_succ])
                  refine take0 (i := 12) (oi := _) (v := ?_) rfl (by kernel_rfl) (by kernel_rfl) (by kernel_rfl) (fun _ _ _ h => h) rfl (Or.inl ⟨by rfl, ?_⟩) (fun _ => hS) ?_
                  rotate_left
                  · intro w0; go_simp; with_reducible rfl
                  (try simp only [Act.put, List.setIfInBounds_toArray, List.set_cons_zero, List.set_cons_succ])
                  refine doneT (by kernel_rfl) ?_ _
                  go_wp2_with fail
                  go_roundw
                  case rel =>
                    refine ⟨k + 1, p + 1 + (nl - p), cL3, L3, by omega, by omega, rfl, by go_num, ?_, below_next blq.out HB3.out⟩
                    rw [hnext.out, hfin.out]
                    refine ⟨_, HO3.out.mono hwq2, ?_⟩
                    exact ((HRT.out.append (RowsP.one1 IXq.out (Away.own OXq.out))).append HRD.out).keep HB3.out
                  case measure => simp [intOf]; omega
              · go_simp
                refine hK _ _ (fun _ => hS) ?_
                clear hK
                (try simp only [Act.put, List.setIfInBounds_toArray, List.set_cons_zero, List.set_cons_succ])
                refine oneT (i := 0) (by kernel_rfl) rfl (by rfl) (fun K hK => ?_)
                go_simp
                refine hK _ _ (fun _ => hS) ?_
                clear hK
                (try simp only [Act.put, List.setIfInBounds_toArray, List.set_cons_zero, List.set_cons_succ])
                refine oneT (i := 4) (by kernel_rfl) rfl (by rfl) (fun K hK => ?_)
                refine wp_append_sl _ (.tmp 44) (.tmp 47) 22 rfl wq.heap.size 26 i0 _ 24 Try.underlying22 hi0 hz0 hz1 hz2 rfl (some ⟨wq.heap.size + 1, 0, none⟩) 0 0 [] rfl (own_empty 26 (wq.alloc (.cells #[.slice X nx cx] 26)) wq.heap.size (by simp) (by simp)).drew1 (some ⟨g, 0, none⟩) p cl (vs.take p) rfl (HTK.out.keep (below_drew1 (below_alloc (below_new wq _) _))) HTO.out (by simp only [maxLen]; omega) (by omega) (by first | omega | (simp; done) | (simp; omega)) ?_
                intro L1 cL1 w1 hO1 hG1 hA1
                have HB1 := Lib.hid (below_grown (below_drew1 (below_alloc (below_new wq _) _)) (own_empty 26 (wq.alloc (.cells #[.slice X nx cx] 26)) wq.heap.size (by simp) (by simp)).drew1 (Nat.le_refl _) hG1)
                have HG1 := Lib.hid hG1
                have HO1 : Hid (Own 26 w1 wq.heap.size L1 p cL1 (vs.take p)) := by simpa [Hid] using hO1
                have lw1 := HB1.out.size
                clear hO1 hG1 hA1
                refine hK _ _ (fun _ => hS) ?_
                clear hK
                (try simp only [Act.put, List.setIfInBounds_toArray, List.set_cons_zero, List.set_cons_succ])
                (try simp only [Nat.zero_add])
                refine oneT (i := 7) (by kernel_rfl) rfl (by rfl) (fun K hK => ?_)
                refine wp_append_sl _ (.tmp 48) (.tmp 50) 22 rfl wq.heap.size 26 i0 _ 24 Try.underlying22 hi0 hz0 hz1 hz2 rfl L1 p cL1 (vs.take p) rfl HO1.out (some ⟨wq.heap.size, 0, none⟩) 1 1 [.slice X nx cx] rfl (Sl.kept1 (Sl.drew1 (Sl.keep (sl_one wq 26 (.slice X nx cx) rfl) (below_new _ _))) HG1.out (.inr (by simp [blockOf]))) (by simp [Value.oneCell']) (by simp only [maxLen]; omega) (by omega) (by first | omega | (simp; omega)) ?_
                intro L2 cL2 w2 hO2 hG2 hA2
                have HB2 := Lib.hid (below_grown HB1.out HO1.out (Nat.le_refl _) hG2)
                have HO2 := Lib.hid hO2
                have lw2 := HB2.out.size
                clear hO2 hG2 hA2
                refine hK _ _ (fun _ => hS) ?_
                clear hK
                (try simp only [Act.put, List.setIfInBounds_toArray, List.set_cons_zero, List.set_cons_succ])
                refine oneT (i := 11) (by kernel_rfl) rfl (by rfl) (fun K hK => ?_)
                refine wp_append_sl _ (.tmp 51) (.tmp 54) 22 rfl wq.heap.size 26 i0 _ 24 Try.underlying22 hi0 hz0 hz1 hz2 rfl L2 (p + 1) cL2 _ rfl HO2.out (some ⟨g, p, none⟩) (nl - p) (cl - p) (vs.drop p) rfl (HDR.out.keep HB2.out) HDO.out (by simp only [maxLen]; omega) (by omega) lw2 ?_
                intro L3 cL3 w3' hO3 hG3 hA3
                have HB3 := Lib.hid (below_grown HB2.out HO2.out (Nat.le_refl _) hG3)
                have HO3 := Lib.hid hO3
                clear hO3 hG3 hA3
                refine hK _ _ (fun _ => hS) ?_
                clear hK
                (try simp only [Act.put, List.setIfInBounds_toArray, List.set_cons_zero, List.set_cons_succ])
                refine take0 (i := 12) (oi := _) (v := ?_) rfl (by kernel_rfl) (by kernel_rfl) (by kernel_rfl) (fun _ _ _ h => h) rfl (Or.inl ⟨by rfl, ?_⟩) (fun _ => hS) ?_
                rotate_left
                · intro w0; go_simp; with_reducible rfl
                (try simp only [Act.put, List.setIfInBounds_toArray, List.set_cons_zero, List.set_cons_succ])
                refine doneT (by kernel_rfl) ?_ _
                go_wp2_with fail
                go_roundw
                case rel =>
                  refine ⟨k + 1, p + 1 + (nl - p), cL3, L3, by omega, by omega, rfl, by go_num, ?_, below_next blq.out HB3.out⟩
                  rw [hnext.out, hfin.out]
                  refine ⟨_, HO3.out.mono hwq2, ?_⟩
                  exact ((HRT.out.append (RowsP.one1 IXq.out (Away.own OXq.out))).append HRD.out).keep HB3.out
                case measure => simp [intOf]; omega
            · have hsame : Hid (normF (xss.take (k + 1)) = o) := by rw [hnext.out, ← hins.out]; exact insR_same hyp.out hq.out (sameB_iff.1 hsm.out)
              clear hcy4 hgl4
              go_wp2_with fail
              go_roundw
              case rel => exact ⟨k + 1, nl, cl, _, by omega, by omega, rfl, by go_num, by rw [hsame.out]; exact ownW.out.keep (below_drewN _ _), below_next blW.out (below_drewN _ _)⟩
              case measure => simp [intOf]; omega
          · have hins2 : Hid (o.take (p + 1) ++ insR x (o.drop (p + 1)) = insR x o) := by rw [← insR_step hyp.out hq.out]; exact hins
            go_wp2_with fail
            go_roundw
            case rel => exact ⟨p + 1, by omega, by go_num, by obtain ⟨m, rfl⟩ := hB.out; exact ⟨_, World.drewN_drewN _ _ _⟩, hins2⟩
            case measure => simp [intOf]; omega
        · have dp : decide (p < nl) = false := decide_eq_false hpk
          obtain rfl : p = nl := by omega
          have hfin : Hid (insR x o = o.take p ++ [x] ++ o.drop p) := by rw [← insR_end (x := x) (by rw [HOL.out]; omega)]; exact hins.out.symm
          obtain ⟨nq, hnq⟩ : ∃ nq : Nat, nq = 0 := ⟨0, rfl⟩
          have EQW : Hid (wr = wr.drewN nq) := by rw [hnq]; rfl
          clear hnq
          obtain ⟨vs0, hv10, _⟩ := ownW.out
          rcases hv10.form with ⟨hLn, hk0, hc0, _⟩ | ⟨g, cur0, hLn, _⟩
          · clear hv10
            subst hLn
            subst hk0
            subst hc0
            obtain ⟨wq, hwq⟩ : ∃ wq : World, wq = wr.drewN nq := ⟨_, rfl⟩
            have hbq : Below wr.heap.size wr wq := by rw [hwq]; exact below_drewN _ _
            have blq := Lib.hid (below_next blW.out hbq)
            have hwq2 := blq.out.size
            have IXq := Lib.hid (IXW.out.keep hbq)
            have OXq := Lib.hid (OXW.out.keep hbq)
            obtain ⟨vs, hv1, hv2⟩ := ownW.out.keep hbq
            have HRT := Lib.hid (hv2.take 0)
            have HRD := Lib.hid (hv2.drop 0)
            have HTO := Lib.hid HRT.out.one
            have HDO := Lib.hid HRD.out.one
            have hvl := Lib.hid hv1.len
            have hvs := Lib.hid hv1.sl
            have HTK : Hid (Sl wq none 0 0 (vs.take 0)) := hvs.out.take (Nat.le_refl _)
            have HDR : Hid (Sl wq none 0 0 (vs.drop 0)) := by simpa [Hid] using hvs.out
            have HWQ := Lib.hid hwq
            clear hwq
            go_wp2_with fail
            rw [EQW.out]
            rw [← HWQ.out]
            have hwq := HWQ.out
            clear EQW HWQ
            clear hwq hbq ownW blW hv1 hv2 IXW OXW
            have hS : True := trivial
            refine wp_region_tail (fun _ => True) [] (by kernel_rfl) ?_
            refine take0 (i := 1) (oi := _) (v := ?_) rfl (by kernel_rfl) (by kernel_rfl) (by kernel_rfl) (fun _ _ _ h => h) rfl (Or.inl ⟨by rfl, ?_⟩) (fun _ => hS) ?_
            rotate_left
            · intro w0; go_simp; with_reducible rfl
            (try simp only [Act.put, List.setIfInBounds_toArray, List.set_cons_zero, List.set_cons_succ])
            refine take0 (i := 2) (oi := _) (v := ?_) rfl (by kernel_rfl) (by kernel_rfl) (by kernel_rfl) (fun _ _ _ h => h) rfl (Or.inl ⟨by rfl, ?_⟩) (fun _ => hS) ?_
            rotate_left
            · intro w0; go_simp; with_reducible rfl
            (try simp only [Act.put, List.setIfInBounds_toArray, List.set_cons_zero, List.set_cons_succ])
            refine take0 (i := 3) (oi := _) (v := ?_) rfl (by kernel_rfl) (by kernel_rfl) (by kernel_rfl) (fun _ _ _ h => h) rfl (Or.inl ⟨by rfl, ?_⟩) (fun _ => hS) ?_
            rotate_left
            · intro w0; go_simp; with_reducible rfl
            (try simp only [Act.put, List.setIfInBounds_toArray, List.set_cons_zero, List.set_cons_succ])
            refine take0 (i := 5) (oi := _) (v := ?_) rfl (by kernel_rfl) (by kernel_rfl) (by kernel_rfl) (fun _ _ _ h => h) rfl (Or.inl ⟨by rfl, ?_⟩) (fun _ => hS) ?_
            rotate_left
            · intro w0; go_simp; with_reducible rfl
            (try simp only [Act.put, List.setIfInBounds_toArray, List.set_cons_zero, List.set_cons_succ])
            refine take0 (i := 8) (oi := _) (v := ?_) rfl (by kernel_rfl) (by kernel_rfl) (by kernel_rfl) (fun _ _ _ h => h) rfl (Or.inl ⟨by rfl, ?_⟩) (fun _ => hS) ?_
            rotate_left
            · intro w0; go_simp; with_reducible rfl
            (try simp only [Act.put, List.setIfInBounds_toArray, List.set_cons_zero, List.set_cons_succ])
            refine take0 (i := 9) (oi := _) (v := ?_) rfl (by kernel_rfl) (by kernel_rfl) (by kernel_rfl) (fun _ _ _ h => h) rfl (Or.inl ⟨by rfl, ?_⟩) (fun _ => hS) ?_
            rotate_left
            · intro w0; go_simp; with_reducible rfl
            (try simp only [Act.put, List.setIfInBounds_toArray, List.set_cons_zero, List.set_cons_succ])
            refine take0 (i := 10) (oi := _) (v := ?_) rfl (by kernel_rfl) (by kernel_rfl) (by kernel_rfl) (fun _ _ _ h => h) rfl (Or.inl ⟨by rfl, ?_⟩) (fun _ => hS) ?_
            rotate_left
            · intro w0; go_simp; with_reducible rfl
            (try simp only [Act.put, List.setIfInBounds_toArray, List.set_cons_zero, List.set_cons_succ])
            refine twoT (i := 0) (j := 6) (by kernel_rfl) rfl (by rfl) rfl (by rfl) (fun K hK => ?_) (fun K hK => ?_)
            · go_simp
              refine hK _ _ (fun _ => hS) ?_
              clear hK
              (try simp only [Act.put, List.setIfInBounds_toArray, List.set_cons_zero, List.set_cons_succ])
              refine twoT (i := 4) (j := 6) (by kernel_rfl) rfl (by rfl) rfl (by rfl) (fun K hK => ?_) (fun K hK => ?_)
              · refine wp_append_sl _ (.tmp 44) (.tmp 47) 22 rfl wq.heap.size 26 i0 _ 24 Try.underlying22 hi0 hz0 hz1 hz2 rfl (some ⟨wq.heap.size, 0, none⟩) 0 0 [] rfl (own_empty 26 wq wq.heap.size rfl (Nat.le_refl _)).drew1 none 0 0 (vs.take 0) rfl (HTK.out.keep (below_drew1 (below_new wq _))) HTO.out (by simp only [maxLen]; omega) (by omega) (by first | omega | (simp; done) | (simp; omega)) ?_
                intro L1 cL1 w1 hO1 hG1 hA1
                have HB1 := Lib.hid (below_grown (below_drew1 (below_new wq _)) (own_empty 26 wq wq.heap.size rfl (Nat.le_refl _)).drew1 (Nat.le_refl _) hG1)
                have HG1 := Lib.hid hG1
                have HO1 : Hid (Own 26 w1 wq.heap.size L1 0 cL1 (vs.take 0)) := by simpa [Hid] using hO1
                have lw1 := HB1.out.size
                clear hO1 hG1 hA1
                refine hK _ _ (fun _ => hS) ?_
                clear hK
                (try simp only [Act.put, List.setIfInBounds_toArray, List.set_cons_zero, List.set_cons_succ])
                refine oneT (i := 6) (by kernel_rfl) rfl (by rfl) (fun K hK => ?_)
                go_simp
                refine hK _ _ (fun _ => hS) ?_
                clear hK
                (try simp only [Act.put, List.setIfInBounds_toArray, List.set_cons_zero, List.set_cons_succ])
                refine oneT (i := 7) (by kernel_rfl) rfl (by rfl) (fun K hK => ?_)
                refine wp_append_sl _ (.tmp 48) (.tmp 50) 22 rfl wq.heap.size 26 i0 _ 24 Try.underlying22 hi0 hz0 hz1 hz2 rfl L1 0 cL1 (vs.take 0) rfl (HO1.out.keep (below_new w1 _)) (some ⟨w1.heap.size, 0, none⟩) 1 1 [.slice X nx cx] rfl (sl_one w1 26 (.slice X nx cx) rfl) (by simp [Value.oneCell']) (by simp only [maxLen]; omega) (by omega) (by first | omega | (simp; omega)) ?_
                intro L2 cL2 w2 hO2 hG2 hA2
                have HB2 := Lib.hid (below_grown (below_alloc HB1.out _) (HO1.out.keep (below_new w1 _)) (Nat.le_refl _) hG2)
                have HO2 := Lib.hid hO2
                have lw2 := HB2.out.size
                clear hO2 hG2 hA2
                refine hK _ _ (fun _ => hS) ?_
                clear hK
                (try simp only [Act.put, List.setIfInBounds_toArray, List.set_cons_zero, List.set_cons_succ])
                refine oneT (i := 11) (by kernel_rfl) rfl (by rfl) (fun K hK => ?_)
                refine wp_append_sl _ (.tmp 51) (.tmp 54) 22 rfl wq.heap.size 26 i0 _ 24 Try.underlying22 hi0 hz0 hz1 hz2 rfl L2 (0 + 1) cL2 _ rfl HO2.out none 0 0 (vs.drop 0) rfl (HDR.out.keep HB2.out) HDO.out (by simp only [maxLen]; omega) (by omega) lw2 ?_
                intro L3 cL3 w3' hO3 hG3 hA3
                have HB3 := Lib.hid (below_grown HB2.out HO2.out (Nat.le_refl _) hG3)
                have HO3 := Lib.hid hO3
                clear hO3 hG3 hA3
                refine hK _ _ (fun _ => hS) ?_
                clear hK
                (try simp only [Act.put, List.setIfInBounds_toArray, List.set_cons_zero, List.set_cons_succ])
                refine take0 (i := 12) (oi := _) (v := ?_) rfl (by kernel_rfl) (by kernel_rfl) (by kernel_rfl) (fun _ _ _ h => h) rfl (Or.inl ⟨by rfl, ?_⟩) (fun _ => hS) ?_
                rotate_left
                · intro w0; go_simp; with_reducible rfl
                (try simp only [Act.put, List.setIfInBounds_toArray, List.set_cons_zero, List.set_cons_succ])
                refine doneT (by kernel_rfl) ?_ _
                go_wp2_with fail
                go_roundw
                case rel =>
                  refine ⟨k + 1, 0 + 1 + 0, cL3, L3, by omega, by omega, rfl, by go_num, ?_, below_next blq.out HB3.out⟩
                  rw [hnext.out, hfin.out]
                  refine ⟨_, HO3.out.mono hwq2, ?_⟩
                  exact ((HRT.out.append (RowsP.one1 IXq.out (Away.own OXq.out))).append HRD.out).keep HB3.out
                case measure => simp [intOf]; omega
              · go_simp
                refine hK _ _ (fun _ => hS) ?_
                clear hK
                (try simp only [Act.put, List.setIfInBounds_toArray, List.set_cons_zero, List.set_cons_succ])
                refine oneT (i := 4) (by kernel_rfl) rfl (by rfl) (fun K hK => ?_)
                refine wp_append_sl _ (.tmp 44) (.tmp 47) 22 rfl wq.heap.size 26 i0 _ 24 Try.underlying22 hi0 hz0 hz1 hz2 rfl (some ⟨wq.heap.size, 0, none⟩) 0 0 [] rfl ((own_empty 26 wq wq.heap.size rfl (Nat.le_refl _)).keep (below_new _ (.cells #[.slice X nx cx] 26))).drew1 none 0 0 (vs.take 0) rfl (HTK.out.keep (below_drew1 (below_alloc (below_new wq _) _))) HTO.out (by simp only [maxLen]; omega) (by omega) (by first | omega | (simp; done) | (simp; omega)) ?_
                intro L1 cL1 w1 hO1 hG1 hA1
                have HB1 := Lib.hid (below_grown (below_drew1 (below_alloc (below_new wq _) _)) ((own_empty 26 wq wq.heap.size rfl (Nat.le_refl _)).keep (below_new _ (.cells #[.slice X nx cx] 26))).drew1 (Nat.le_refl _) hG1)
                have HG1 := Lib.hid hG1
                have HO1 : Hid (Own 26 w1 wq.heap.size L1 0 cL1 (vs.take 0)) := by simpa [Hid] using hO1
                have lw1 := HB1.out.size
                clear hO1 hG1 hA1
                refine hK _ _ (fun _ => hS) ?_
                clear hK
                (try simp only [Act.put, List.setIfInBounds_toArray, List.set_cons_zero, List.set_cons_succ])
                (try simp only [Nat.zero_add])
                refine oneT (i := 7) (by kernel_rfl) rfl (by rfl) (fun K hK => ?_)
                refine wp_append_sl _ (.tmp 48) (.tmp 50) 22 rfl wq.heap.size 26 i0 _ 24 Try.underlying22 hi0 hz0 hz1 hz2 rfl L1 0 cL1 (vs.take 0) rfl HO1.out (some ⟨wq.heap.size + 1, 0, none⟩) 1 1 [.slice X nx cx] rfl (Sl.kept1 (Sl.drew1 (sl_one (wq.alloc (.cells #[] 26)) 26 (.slice X nx cx) (by simp))) HG1.out (.inr (by simp [blockOf]))) (by simp [Value.oneCell']) (by simp only [maxLen]; omega) (by omega) (by first | omega | (simp; omega)) ?_
                intro L2 cL2 w2 hO2 hG2 hA2
                have HB2 := Lib.hid (below_grown HB1.out HO1.out (Nat.le_refl _) hG2)
                have HO2 := Lib.hid hO2
                have lw2 := HB2.out.size
                clear hO2 hG2 hA2
                refine hK _ _ (fun _ => hS) ?_
                clear hK
                (try simp only [Act.put, List.setIfInBounds_toArray, List.set_cons_zero, List.set_cons_succ])
                refine oneT (i := 11) (by kernel_rfl) rfl (by rfl) (fun K hK => ?_)
                refine wp_append_sl _ (.tmp 51) (.tmp 54) 22 rfl wq.heap.size 26 i0 _ 24 Try.underlying22 hi0 hz0 hz1 hz2 rfl L2 (0 + 1) cL2 _ rfl HO2.out none 0 0 (vs.drop 0) rfl (HDR.out.keep HB2.out) HDO.out (by simp only [maxLen]; omega) (by omega) lw2 ?_
                intro L3 cL3 w3' hO3 hG3 hA3
                have HB3 := Lib.hid (below_grown HB2.out HO2.out (Nat.le_refl _) hG3)
                have HO3 := Lib.hid hO3
                clear hO3 hG3 hA3
                refine hK _ _ (fun _ => hS) ?_
                clear hK
                (try simp only [Act.put, List.setIfInBounds_toArray, List.set_cons_zero, List.set_cons_succ])
                refine take0 (i := 12) (oi := _) (v := ?_) rfl (by kernel_rfl) (by kernel_rfl) (by kernel_rfl) (fun _ _ _ h => h) rfl (Or.inl ⟨by rfl, ?_⟩) (fun _ => hS) ?_
                rotate_left
                · intro w0; go_simp; with_reducible rfl
                (try simp only [Act.put, List.setIfInBounds_toArray, List.set_cons_zero, List.set_cons_succ])
                refine doneT (by kernel_rfl) ?_ _
                go_wp2_with fail
                go_roundw
                case rel =>
                  refine ⟨k + 1, 0 + 1 + 0, cL3, L3, by omega, by omega, rfl, by go_num, ?_, below_next blq.out HB3.out⟩
                  rw [hnext.out, hfin.out]
                  refine ⟨_, HO3.out.mono hwq2, ?_⟩
                  exact ((HRT.out.append (RowsP.one1 IXq.out (Away.own OXq.out))).append HRD.out).keep HB3.out
                case measure => simp [intOf]; omega
            · go_simp
              refine hK _ _ (fun _ => hS) ?_
              clear hK
              (try simp only [Act.put, List.setIfInBounds_toArray, List.set_cons_zero, List.set_cons_succ])
              refine oneT (i := 0) (by kernel_rfl) rfl (by rfl) (fun K hK => ?_)
              go_simp
              refine hK _ _ (fun _ => hS) ?_
              clear hK
              (try simp only [Act.put, List.setIfInBounds_toArray, List.set_cons_zero, List.set_cons_succ])
              refine oneT (i := 4) (by kernel_rfl) rfl (by rfl) (fun K hK => ?_)
              refine wp_append_sl _ (.tmp 44) (.tmp 47) 22 rfl wq.heap.size 26 i0 _ 24 Try.underlying22 hi0 hz0 hz1 hz2 rfl (some ⟨wq.heap.size + 1, 0, none⟩) 0 0 [] rfl (own_empty 26 (wq.alloc (.cells #[.slice X nx cx] 26)) wq.heap.size (by simp) (by simp)).drew1 none 0 0 (vs.take 0) rfl (HTK.out.keep (below_drew1 (below_alloc (below_new wq _) _))) HTO.out (by simp only [maxLen]; omega) (by omega) (by first | omega | (simp; done) | (simp; omega)) ?_
              intro L1 cL1 w1 hO1 hG1 hA1
              have HB1 := Lib.hid (below_grown (below_drew1 (below_alloc (below_new wq _) _)) (own_empty 26 (wq.alloc (.cells #[.slice X nx cx] 26)) wq.heap.size (by simp) (by simp)).drew1 (Nat.le_refl _) hG1)
              have HG1 := Lib.hid hG1
              have HO1 : Hid (Own 26 w1 wq.heap.size L1 0 cL1 (vs.take 0)) := by simpa [Hid] using hO1
              have lw1 := HB1.out.size
              clear hO1 hG1 hA1
              refine hK _ _ (fun _ => hS) ?_
              clear hK
              (try simp only [Act.put, List.setIfInBounds_toArray, List.set_cons_zero, List.set_cons_succ])
              (try simp only [Nat.zero_add])
              refine oneT (i := 7) (by kernel_rfl) rfl (by rfl) (fun K hK => ?_)
              refine wp_append_sl _ (.tmp 48) (.tmp 50) 22 rfl wq.heap.size 26 i0 _ 24 Try.underlying22 hi0 hz0 hz1 hz2 rfl L1 0 cL1 (vs.take 0) rfl HO1.out (some ⟨wq.heap.size, 0, none⟩) 1 1 [.slice X nx cx] rfl (Sl.kept1 (Sl.drew1 (Sl.keep (sl_one wq 26 (.slice X nx cx) rfl) (below_new _ _))) HG1.out (.inr (by simp [blockOf]))) (by simp [Value.oneCell']) (by simp only [maxLen]; omega) (by omega) (by first | omega | (simp; omega)) ?_
              intro L2 cL2 w2 hO2 hG2 hA2
              have HB2 := Lib.hid (below_grown HB1.out HO1.out (Nat.le_refl _) hG2)
              have HO2 := Lib.hid hO2
              have lw2 := HB2.out.size
              clear hO2 hG2 hA2
              refine hK _ _ (fun _ => hS) ?_
              clear hK
              (try simp only [Act.put, List.setIfInBounds_toArray, List.set_cons_zero, List.set_cons_succ])
              refine oneT (i := 11) (by kernel_rfl) rfl (by rfl) (fun K hK => ?_)
              refine wp_append_sl _ (.tmp 51) (.tmp 54) 22 rfl wq.heap.size 26 i0 _ 24 Try.underlying22 hi0 hz0 hz1 hz2 rfl L2 (0 + 1) cL2 _ rfl HO2.out none 0 0 (vs.drop 0) rfl (HDR.out.keep HB2.out) HDO.out (by simp only [maxLen]; omega) (by omega) lw2 ?_
              intro L3 cL3 w3' hO3 hG3 hA3
              have HB3 := Lib.hid (below_grown HB2.out HO2.out (Nat.le_refl _) hG3)
              have HO3 := Lib.hid hO3
              clear hO3 hG3 hA3
              refine hK _ _ (fun _ => hS) ?_
              clear hK
              (try simp only [Act.put, List.setIfInBounds_toArray, List.set_cons_zero, List.set_cons_succ])
              refine take0 (i := 12) (oi := _) (v := ?_) rfl (by kernel_rfl) (by kernel_rfl) (by kernel_rfl) (fun _ _ _ h => h) rfl (Or.inl ⟨by rfl, ?_⟩) (fun _ => hS) ?_
              rotate_left
              · intro w0; go_simp; with_reducible rfl
              (try simp only [Act.put, List.setIfInBounds_toArray, List.set_cons_zero, List.set_cons_succ])
              refine doneT (by kernel_rfl) ?_ _
              go_wp2_with fail
              go_roundw
              case rel =>
                refine ⟨k + 1, 0 + 1 + 0, cL3, L3, by omega, by omega, rfl, by go_num, ?_, below_next blq.out HB3.out⟩
                rw [hnext.out, hfin.out]
                refine ⟨_, HO3.out.mono hwq2, ?_⟩
                exact ((HRT.out.append (RowsP.one1 IXq.out (Away.own OXq.out))).append HRD.out).keep HB3.out
              case measure => simp [intOf]; omega
          · clear hv10
            subst hLn
            by_cases hcp : cl = p
            · subst hcp
              obtain ⟨wq, hwq⟩ : ∃ wq : World, wq = wr.drewN nq := ⟨_, rfl⟩
              have hbq : Below wr.heap.size wr wq := by rw [hwq]; exact below_drewN _ _
              have blq := Lib.hid (below_next blW.out hbq)
              have hwq2 := blq.out.size
              have IXq := Lib.hid (IXW.out.keep hbq)
              have OXq := Lib.hid (OXW.out.keep hbq)
              obtain ⟨vs, hv1, hv2⟩ := ownW.out.keep hbq
              have HRT := Lib.hid (hv2.take cl)
              have HRD := Lib.hid (hv2.drop cl)
              have HTO := Lib.hid HRT.out.one
              have HDO := Lib.hid HRD.out.one
              have hvl := Lib.hid hv1.len
              have hvs := Lib.hid hv1.sl
              have HTK : Hid (Sl wq (some ⟨g, 0, none⟩) cl cl (vs.take cl)) := hvs.out.take (Nat.le_refl _)
              have HDR : Hid (Sl wq (some ⟨g, 0, none⟩) 0 0 (vs.drop cl)) := by rw [List.drop_of_length_le (by rw [hvl.out]; omega)]; exact Sl.nilAny (Nat.zero_le _)
              have HWQ := Lib.hid hwq
              clear hwq
              go_wp2_with fail
              rw [EQW.out]
              rw [← HWQ.out]
              have hwq := HWQ.out
              clear EQW HWQ
              clear hwq hbq ownW blW hv1 hv2 IXW OXW
              have hS : True := trivial
              refine wp_region_tail (fun _ => True) [] (by kernel_rfl) ?_
              refine take0 (i := 1) (oi := _) (v := ?_) rfl (by kernel_rfl) (by kernel_rfl) (by kernel_rfl) (fun _ _ _ h => h) rfl (Or.inl ⟨by rfl, ?_⟩) (fun _ => hS) ?_
              rotate_left
              · intro w0; go_simp; with_reducible rfl
              (try simp only [Act.put, List.setIfInBounds_toArray, List.set_cons_zero, List.set_cons_succ])
              refine take0 (i := 2) (oi := _) (v := ?_) rfl (by kernel_rfl) (by kernel_rfl) (by kernel_rfl) (fun _ _ _ h => h) rfl (Or.inl ⟨by rfl, ?_⟩) (fun _ => hS) ?_
              rotate_left
              · intro w0; go_simp; with_reducible rfl
              (try simp only [Act.put, List.setIfInBounds_toArray, List.set_cons_zero, List.set_cons_succ])
              refine take0 (i := 3) (oi := _) (v := ?_) rfl (by kernel_rfl) (by kernel_rfl) (by kernel_rfl) (fun _ _ _ h => h) rfl (Or.inl ⟨by rfl, ?_⟩) (fun _ => hS) ?_
              rotate_left
              · intro w0; go_simp; with_reducible rfl
              (try simp only [Act.put, List.setIfInBounds_toArray, List.set_cons_zero, List.set_cons_succ])
              refine take0 (i := 5) (oi := _) (v := ?_) rfl (by kernel_rfl) (by kernel_rfl) (by kernel_rfl) (fun _ _ _ h => h) rfl (Or.inl ⟨by rfl, ?_⟩) (fun _ => hS) ?_
              rotate_left
              · intro w0; go_simp; with_reducible rfl
              (try simp only [Act.put, List.setIfInBounds_toArray, List.set_cons_zero, List.set_cons_succ])
              refine take0 (i := 8) (oi := _) (v := ?_) rfl (by kernel_rfl) (by kernel_rfl) (by kernel_rfl) (fun _ _ _ h => h) rfl (Or.inl ⟨by rfl, ?_⟩) (fun _ => hS) ?_
              rotate_left
              · intro w0; go_simp; with_reducible rfl
              (try simp only [Act.put, List.setIfInBounds_toArray, List.set_cons_zero, List.set_cons_succ])
              refine take0 (i := 9) (oi := _) (v := ?_) rfl (by kernel_rfl) (by kernel_rfl) (by kernel_rfl) (fun _ _ _ h => h) rfl (Or.inl ⟨by rfl, ?_⟩) (fun _ => hS) ?_
              rotate_left
              · intro w0; go_simp; with_reducible rfl
              (try simp only [Act.put, List.setIfInBounds_toArray, List.set_cons_zero, List.set_cons_succ])
              refine take0 (i := 10) (oi := _) (v := ?_) rfl (by kernel_rfl) (by kernel_rfl) (by kernel_rfl) (fun _ _ _ h => h) rfl (Or.inl ⟨by rfl, ?_⟩) (fun _ => hS) ?_
              rotate_left
              · intro w0; go_simp; with_reducible rfl
              (try simp only [Act.put, List.setIfInBounds_toArray, List.set_cons_zero, List.set_cons_succ])
              refine twoT (i := 0) (j := 6) (by kernel_rfl) rfl (by rfl) rfl (by rfl) (fun K hK => ?_) (fun K hK => ?_)
              · go_simp
                refine hK _ _ (fun _ => hS) ?_
                clear hK
                (try simp only [Act.put, List.setIfInBounds_toArray, List.set_cons_zero, List.set_cons_succ])
                refine twoT (i := 4) (j := 6) (by kernel_rfl) rfl (by rfl) rfl (by rfl) (fun K hK => ?_) (fun K hK => ?_)
                · refine wp_append_sl _ (.tmp 44) (.tmp 47) 22 rfl wq.heap.size 26 i0 _ 24 Try.underlying22 hi0 hz0 hz1 hz2 rfl (some ⟨wq.heap.size, 0, none⟩) 0 0 [] rfl (own_empty 26 wq wq.heap.size rfl (Nat.le_refl _)).drew1 (some ⟨g, 0, none⟩) cl cl (vs.take cl) rfl (HTK.out.keep (below_drew1 (below_new wq _))) HTO.out (by simp only [maxLen]; omega) (by omega) (by first | omega | (simp; done) | (simp; omega)) ?_
                  intro L1 cL1 w1 hO1 hG1 hA1
                  have HB1 := Lib.hid (below_grown (below_drew1 (below_new wq _)) (own_empty 26 wq wq.heap.size rfl (Nat.le_refl _)).drew1 (Nat.le_refl _) hG1)
                  have HG1 := Lib.hid hG1
                  have HO1 : Hid (Own 26 w1 wq.heap.size L1 cl cL1 (vs.take cl)) := by simpa [Hid] using hO1
                  have lw1 := HB1.out.size
                  clear hO1 hG1 hA1
                  refine hK _ _ (fun _ => hS) ?_
                  clear hK
                  (try simp only [Act.put, List.setIfInBounds_toArray, List.set_cons_zero, List.set_cons_succ])
                  refine oneT (i := 6) (by kernel_rfl) rfl (by rfl) (fun K hK => ?_)
                  go_simp
                  refine hK _ _ (fun _ => hS) ?_
                  clear hK
                  (try simp only [Act.put, List.setIfInBounds_toArray, List.set_cons_zero, List.set_cons_succ])
                  refine oneT (i := 7) (by kernel_rfl) rfl (by rfl) (fun K hK => ?_)
                  refine wp_append_sl _ (.tmp 48) (.tmp 50) 22 rfl wq.heap.size 26 i0 _ 24 Try.underlying22 hi0 hz0 hz1 hz2 rfl L1 cl cL1 (vs.take cl) rfl (HO1.out.keep (below_new w1 _)) (some ⟨w1.heap.size, 0, none⟩) 1 1 [.slice X nx cx] rfl (sl_one w1 26 (.slice X nx cx) rfl) (by simp [Value.oneCell']) (by simp only [maxLen]; omega) (by omega) (by first | omega | (simp; omega)) ?_
                  intro L2 cL2 w2 hO2 hG2 hA2
                  have HB2 := Lib.hid (below_grown (below_alloc HB1.out _) (HO1.out.keep (below_new w1 _)) (Nat.le_refl _) hG2)
                  have HO2 := Lib.hid hO2
                  have lw2 := HB2.out.size
                  clear hO2 hG2 hA2
                  refine hK _ _ (fun _ => hS) ?_
                  clear hK
                  (try simp only [Act.put, List.setIfInBounds_toArray, List.set_cons_zero, List.set_cons_succ])
                  refine oneT (i := 11) (by kernel_rfl) rfl (by rfl) (fun K hK => ?_)
                  refine wp_append_sl _ (.tmp 51) (.tmp 54) 22 rfl wq.heap.size 26 i0 _ 24 Try.underlying22 hi0 hz0 hz1 hz2 rfl L2 (cl + 1) cL2 _ rfl HO2.out (some ⟨g, 0, none⟩) 0 0 (vs.drop cl) rfl (HDR.out.keep HB2.out) HDO.out (by simp only [maxLen]; omega) (by omega) lw2 ?_
                  intro L3 cL3 w3' hO3 hG3 hA3
                  have HB3 := Lib.hid (below_grown HB2.out HO2.out (Nat.le_refl _) hG3)
                  have HO3 := Lib.hid hO3
                  clear hO3 hG3 hA3
                  refine hK _ _ (fun _ => hS) ?_
                  clear hK
                  (try simp only [Act.put, List.setIfInBounds_toArray, List.set_cons_zero, List.set_cons_succ])
                  refine take0 (i := 12) (oi := _) (v := ?_) rfl (by kernel_rfl) (by kernel_rfl) (by kernel_rfl) (fun _ _ _ h => h) rfl (Or.inl ⟨by rfl, ?_⟩) (fun _ => hS) ?_
                  rotate_left
                  · intro w0; go_simp; with_reducible rfl
                  (try simp only [Act.put, List.setIfInBounds_toArray, List.set_cons_zero, List.set_cons_succ])
                  refine doneT (by kernel_rfl) ?_ _
                  go_wp2_with fail
                  go_roundw
                  case rel =>
                    refine ⟨k + 1, cl + 1 + 0, cL3, L3, by omega, by omega, rfl, by go_num, ?_, below_next blq.out HB3.out⟩
                    rw [hnext.out, hfin.out]
                    refine ⟨_, HO3.out.mono hwq2, ?_⟩
                    exact ((HRT.out.append (RowsP.one1 IXq.out (Away.own OXq.out))).append HRD.out).keep HB3.out
                  case measure => simp [intOf]; omega
                · go_simp
                  refine hK _ _ (fun _ => hS) ?_
                  clear hK
                  (try simp only [Act.put, List.setIfInBounds_toArray, List.set_cons_zero, List.set_cons_succ])
                  refine oneT (i := 4) (by kernel_rfl) rfl (by rfl) (fun K hK => ?_)
                  refine wp_append_sl _ (.tmp 44) (.tmp 47) 22 rfl wq.heap.size 26 i0 _ 24 Try.underlying22 hi0 hz0 hz1 hz2 rfl (some ⟨wq.heap.size, 0, none⟩) 0 0 [] rfl ((own_empty 26 wq wq.heap.size rfl (Nat.le_refl _)).keep (below_new _ (.cells #[.slice X nx cx] 26))).drew1 (some ⟨g, 0, none⟩) cl cl (vs.take cl) rfl (HTK.out.keep (below_drew1 (below_alloc (below_new wq _) _))) HTO.out (by simp only [maxLen]; omega) (by omega) (by first | omega | (simp; done) | (simp; omega)) ?_
                  intro L1 cL1 w1 hO1 hG1 hA1
                  have HB1 := Lib.hid (below_grown (below_drew1 (below_alloc (below_new wq _) _)) ((own_empty 26 wq wq.heap.size rfl (Nat.le_refl _)).keep (below_new _ (.cells #[.slice X nx cx] 26))).drew1 (Nat.le_refl _) hG1)
                  have HG1 := Lib.hid hG1
                  have HO1 : Hid (Own 26 w1 wq.heap.size L1 cl cL1 (vs.take cl)) := by simpa [Hid] using hO1
                  have lw1 := HB1.out.size
                  clear hO1 hG1 hA1
                  refine hK _ _ (fun _ => hS) ?_
                  clear hK
                  (try simp only [Act.put, List.setIfInBounds_toArray, List.set_cons_zero, List.set_cons_succ])
                  (try simp only [Nat.zero_add])
                  refine oneT (i := 7) (by kernel_rfl) rfl (by rfl) (fun K hK => ?_)
                  refine wp_append_sl _ (.tmp 48) (.tmp 50) 22 rfl wq.heap.size 26 i0 _ 24 Try.underlying22 hi0 hz0 hz1 hz2 rfl L1 cl cL1 (vs.take cl) rfl HO1.out (some ⟨wq.heap.size + 1, 0, none⟩) 1 1 [.slice X nx cx] rfl (Sl.kept1 (Sl.drew1 (sl_one (wq.alloc (.cells #[] 26)) 26 (.slice X nx cx) (by simp))) HG1.out (.inr (by simp [blockOf]))) (by simp [Value.oneCell']) (by simp only [maxLen]; omega) (by omega) (by first | omega | (simp; omega)) ?_
                  intro L2 cL2 w2 hO2 hG2 hA2
                  have HB2 := Lib.hid (below_grown HB1.out HO1.out (Nat.le_refl _) hG2)
                  have HO2 := Lib.hid hO2
                  have lw2 := HB2.out.size
                  clear hO2 hG2 hA2
                  refine hK _ _ (fun _ => hS) ?_
                  clear hK
                  (try simp only [Act.put, List.setIfInBounds_toArray, List.set_cons_zero, List.set_cons_succ])
                  refine oneT (i := 11) (by kernel_rfl) rfl (by rfl) (fun K hK => ?_)
                  refine wp_append_sl _ (.tmp 51) (.tmp 54) 22 rfl wq.heap.size 26 i0 _ 24 Try.underlying22 hi0 hz0 hz1 hz2 rfl L2 (cl + 1) cL2 _ rfl HO2.out (some ⟨g, 0, none⟩) 0 0 (vs.drop cl) rfl (HDR.out.keep HB2.out) HDO.out (by simp only [maxLen]; omega) (by omega) lw2 ?_
                  intro L3 cL3 w3' hO3 hG3 hA3
                  have HB3 := Lib.hid (below_grown HB2.out HO2.out (Nat.le_refl _) hG3)
                  have HO3 := Lib.hid hO3
                  clear hO3 hG3 hA3
                  refine hK _ _ (fun _ => hS) ?_
                  clear hK
                  (try simp only [Act.put, List.setIfInBounds_toArray, List.set_cons_zero, List.set_cons_succ])
                  refine take0 (i := 12) (oi := _) (v := ?_) rfl (by kernel_rfl) (by kernel_rfl) (by kernel_rfl) (fun _ _ _ h => h) rfl (Or.inl ⟨by rfl, ?_⟩) (fun _ => hS) ?_
                  rotate_left
                  · intro w0; go_simp; with_reducible rfl
                  (try simp only [Act.put, List.setIfInBounds_toArray, List.set_cons_zero, List.set_cons_succ])
                  refine doneT (by kernel_rfl) ?_ _
                  go_wp2_with fail
                  go_roundw
                  case rel =>
                    refine ⟨k + 1, cl + 1 + 0, cL3, L3, by omega, by omega, rfl, by go_num, ?_, below_next blq.out HB3.out⟩
                    rw [hnext.out, hfin.out]
                    refine ⟨_, HO3.out.mono hwq2, ?_⟩
                    exact ((HRT.out.append (RowsP.one1 IXq.out (Away.own OXq.out))).append HRD.out).keep HB3.out
                  case measure => simp [intOf]; omega
              · go_simp
                refine hK _ _ (fun _ => hS) ?_
                clear hK
                (try simp only [Act.put, List.setIfInBounds_toArray, List.set_cons_zero, List.set_cons_succ])
                refine oneT (i := 0) (by kernel_rfl) rfl (by rfl) (fun K hK => ?_)
                go_simp
                refine hK _ _ (fun _ => hS) ?_
                clear hK
                (try simp only [Act.put, List.setIfInBounds_toArray, List.set_cons_zero, List.set_cons_succ])
                refine oneT (i := 4) (by kernel_rfl) rfl (by rfl) (fun K hK => ?_)
                refine wp_append_sl _ (.tmp 44) (.tmp 47) 22 rfl wq.heap.size 26 i0 _ 24 Try.underlying22 hi0 hz0 hz1 hz2 rfl (some ⟨wq.heap.size + 1, 0, none⟩) 0 0 [] rfl (own_empty 26 (wq.alloc (.cells #[.slice X nx cx] 26)) wq.heap.size (by simp) (by simp)).drew1 (some ⟨g, 0, none⟩) cl cl (vs.take cl) rfl (HTK.out.keep (below_drew1 (below_alloc (below_new wq _) _))) HTO.out (by simp only [maxLen]; omega) (by omega) (by first | omega | (simp; done) | (simp; omega)) ?_
                intro L1 cL1 w1 hO1 hG1 hA1
                have HB1 := Lib.hid (below_grown (below_drew1 (below_alloc (below_new wq _) _)) (own_empty 26 (wq.alloc (.cells #[.slice X nx cx] 26)) wq.heap.size (by simp) (by simp)).drew1 (Nat.le_refl _) hG1)
                have HG1 := Lib.hid hG1
                have HO1 : Hid (Own 26 w1 wq.heap.size L1 cl cL1 (vs.take cl)) := by simpa [Hid] using hO1
                have lw1 := HB1.out.size
                clear hO1 hG1 hA1
                refine hK _ _ (fun _ => hS) ?_
                clear hK
                (try simp only [Act.put, List.setIfInBounds_toArray, List.set_cons_zero, List.set_cons_succ])
                (try simp only [Nat.zero_add])
                refine oneT (i := 7) (by kernel_rfl) rfl (by rfl) (fun K hK => ?_)
                refine wp_append_sl _ (.tmp 48) (.tmp 50) 22 rfl wq.heap.size 26 i0 _ 24 Try.underlying22 hi0 hz0 hz1 hz2 rfl L1 cl cL1 (vs.take cl) rfl HO1.out (some ⟨wq.heap.size, 0, none⟩) 1 1 [.slice X nx cx] rfl (Sl.kept1 (Sl.drew1 (Sl.keep (sl_one wq 26 (.slice X nx cx) rfl) (below_new _ _))) HG1.out (.inr (by simp [blockOf]))) (by simp [Value.oneCell']) (by simp only [maxLen]; omega) (by omega) (by first | omega | (simp; omega)) ?_
                intro L2 cL2 w2 hO2 hG2 hA2
                have HB2 := Lib.hid (below_grown HB1.out HO1.out (Nat.le_refl _) hG2)
                have HO2 := Lib.hid hO2
                have lw2 := HB2.out.size
                clear hO2 hG2 hA2
                refine hK _ _ (fun _ => hS) ?_
                clear hK
                (try simp only [Act.put, List.setIfInBounds_toArray, List.set_cons_zero, List.set_cons_succ])
                refine oneT (i := 11) (by kernel_rfl) rfl (by rfl) (fun K hK => ?_)
                refine wp_append_sl _ (.tmp 51) (.tmp 54) 22 rfl wq.heap.size 26 i0 _ 24 Try.underlying22 hi0 hz0 hz1 hz2 rfl L2 (cl + 1) cL2 _ rfl HO2.out (some ⟨g, 0, none⟩) 0 0 (vs.drop cl) rfl (HDR.out.keep HB2.out) HDO.out (by simp only [maxLen]; omega) (by omega) lw2 ?_
                intro L3 cL3 w3' hO3 hG3 hA3
                have HB3 := Lib.hid (below_grown HB2.out HO2.out (Nat.le_refl _) hG3)
                have HO3 := Lib.hid hO3
                clear hO3 hG3 hA3
                refine hK _ _ (fun _ => hS) ?_
                clear hK
                (try simp only [Act.put, List.setIfInBounds_toArray, List.set_cons_zero, List.set_cons_succ])
                refine take0 (i := 12) (oi := _) (v := ?_) rfl (by kernel_rfl) (by kernel_rfl) (by kernel_rfl) (fun _ _ _ h => h) rfl (Or.inl ⟨by rfl, ?_⟩) (fun _ => hS) ?_
                rotate_left
                · intro w0; go_simp; with_reducible rfl
                (try simp only [Act.put, List.setIfInBounds_toArray, List.set_cons_zero, List.set_cons_succ])
                refine doneT (by kernel_rfl) ?_ _
                go_wp2_with fail
                go_roundw
                case rel =>
                  refine ⟨k + 1, cl + 1 + 0, cL3, L3, by omega, by omega, rfl, by go_num, ?_, below_next blq.out HB3.out⟩
                  rw [hnext.out, hfin.out]
                  refine ⟨_, HO3.out.mono hwq2, ?_⟩
                  exact ((HRT.out.append (RowsP.one1 IXq.out (Away.own OXq.out))).append HRD.out).keep HB3.out
                case measure => simp [intOf]; omega
            · have hcp2 : ((cl : Int) = (p : Int)) = False := by simp; omega
              obtain ⟨wq, hwq⟩ : ∃ wq : World, wq = wr.drewN nq := ⟨_, rfl⟩
              have hbq : Below wr.heap.size wr wq := by rw [hwq]; exact below_drewN _ _
              have blq := Lib.hid (below_next blW.out hbq)
              have hwq2 := blq.out.size
              have IXq := Lib.hid (IXW.out.keep hbq)
              have OXq := Lib.hid (OXW.out.keep hbq)
              obtain ⟨vs, hv1, hv2⟩ := ownW.out.keep hbq
              have HRT := Lib.hid (hv2.take p)
              have HRD := Lib.hid (hv2.drop p)
              have HTO := Lib.hid HRT.out.one
              have HDO := Lib.hid HRD.out.one
              have hvl := Lib.hid hv1.len
              have hvs := Lib.hid hv1.sl
              have HTK : Hid (Sl wq (some ⟨g, 0, none⟩) p cl (vs.take p)) := hvs.out.take (Nat.le_refl _)
              have HDR : Hid (Sl wq (some ⟨g, p, none⟩) 0 (cl - p) (vs.drop p)) := by rw [List.drop_of_length_le (by rw [hvl.out]; omega)]; exact Sl.nilAny (by have := hvs.out.cap; omega)
              have HWQ := Lib.hid hwq
              clear hwq
              go_wp2_with fail
              rw [EQW.out]
              rw [← HWQ.out]
              have hwq := HWQ.out
              clear EQW HWQ
              clear hwq hbq ownW blW hv1 hv2 IXW OXW
              have hS : True := trivial
              refine wp_region_tail (fun _ => True) [] (by kernel_rfl) ?_
              refine take0 (i := 1) (oi := _) (v := ?_) rfl (by kernel_rfl) (by kernel_rfl) (by kernel_rfl) (fun _ _ _ h => h) rfl (Or.inl ⟨by rfl, ?_⟩) (fun _ => hS) ?_
              rotate_left
              · intro w0; go_simp; with_reducible rfl
              (try simp only [Act.put, List.setIfInBounds_toArray, List.set_cons_zero, List.set_cons_succ])
              refine take0 (i := 2) (oi := _) (v := ?_) rfl (by kernel_rfl) (by kernel_rfl) (by kernel_rfl) (fun _ _ _ h => h) rfl (Or.inl ⟨by rfl, ?_⟩) (fun _ => hS) ?_
              rotate_left
              · intro w0; go_simp; with_reducible rfl
              (try simp only [Act.put, List.setIfInBounds_toArray, List.set_cons_zero, List.set_cons_succ])
              refine take0 (i := 3) (oi := _) (v := ?_) rfl (by kernel_rfl) (by kernel_rfl) (by kernel_rfl) (fun _ _ _ h => h) rfl (Or.inl ⟨by rfl, ?_⟩) (fun _ => hS) ?_
              rotate_left
              · intro w0; go_simp; with_reducible rfl
              (try simp only [Act.put, List.setIfInBounds_toArray, List.set_cons_zero, List.set_cons_succ])
              refine take0 (i := 5) (oi := _) (v := ?_) rfl (by kernel_rfl) (by kernel_rfl) (by kernel_rfl) (fun _ _ _ h => h) rfl (Or.inl ⟨by rfl, ?_⟩) (fun _ => hS) ?_
              rotate_left
              · intro w0; go_simp; with_reducible rfl
              (try simp only [Act.put, List.setIfInBounds_toArray, List.set_cons_zero, List.set_cons_succ])
              refine take0 (i := 8) (oi := _) (v := ?_) rfl (by kernel_rfl) (by kernel_rfl) (by kernel_rfl) (fun _ _ _ h => h) rfl (Or.inl ⟨by rfl, ?_⟩) (fun _ => hS) ?_
              rotate_left
              · intro w0; go_simp; with_reducible rfl
              (try simp only [Act.put, List.setIfInBounds_toArray, List.set_cons_zero, List.set_cons_succ])
              refine take0 (i := 9) (oi := _) (v := ?_) rfl (by kernel_rfl) (by kernel_rfl) (by kernel_rfl) (fun _ _ _ h => h) rfl (Or.inl ⟨by rfl, ?_⟩) (fun _ => hS) ?_
              rotate_left
              · intro w0; go_simp; with_reducible rfl
              (try simp only [Act.put, List.setIfInBounds_toArray, List.set_cons_zero, List.set_cons_succ])
              refine take0 (i := 10) (oi := _) (v := ?_) rfl (by kernel_rfl) (by kernel_rfl) (by kernel_rfl) (fun _ _ _ h => h) rfl (Or.inl ⟨by rfl, ?_⟩) (fun _ => hS) ?_
              rotate_left
              · intro w0; go_simp; with_reducible rfl
              (try simp only [Act.put, List.setIfInBounds_toArray, List.set_cons_zero, List.set_cons_succ])
              refine twoT (i := 0) (j := 6) (by kernel_rfl) rfl (by rfl) rfl (by rfl) (fun K hK => ?_) (fun K hK => ?_)
              · go_simp
                refine hK _ _ (fun _ => hS) ?_
                clear hK
                (try simp only [Act.put, List.setIfInBounds_toArray, List.set_cons_zero, List.set_cons_succ])
                refine twoT (i := 4) (j := 6) (by kernel_rfl) rfl (by rfl) rfl (by rfl) (fun K hK => ?_) (fun K hK => ?_)
                · refine wp_append_sl _ (.tmp 44) (.tmp 47) 22 rfl wq.heap.size 26 i0 _ 24 Try.underlying22 hi0 hz0 hz1 hz2 rfl (some ⟨wq.heap.size, 0, none⟩) 0 0 [] rfl (own_empty 26 wq wq.heap.size rfl (Nat.le_refl _)).drew1 (some ⟨g, 0, none⟩) p cl (vs.take p) rfl (HTK.out.keep (below_drew1 (below_new wq _))) HTO.out (by simp only [maxLen]; omega) (by omega) (by first | omega | (simp; done) | (simp; omega)) ?_
                  intro L1 cL1 w1 hO1 hG1 hA1
                  have HB1 := Lib.hid (below_grown (below_drew1 (below_new wq _)) (own_empty 26 wq wq.heap.size rfl (Nat.le_refl _)).drew1 (Nat.le_refl _) hG1)
                  have HG1 := Lib.hid hG1
                  have HO1 : Hid (Own 26 w1 wq.heap.size L1 p cL1 (vs.take p)) := by simpa [Hid] using hO1
                  have lw1 := HB1.out.size
                  clear hO1 hG1 hA1
                  refine hK _ _ (fun _ => hS) ?_
                  clear hK
                  (try simp only [Act.put, List.setIfInBounds_toArray, List.set_cons_zero, List.set_cons_succ])
                  refine oneT (i := 6) (by kernel_rfl) rfl (by rfl) (fun K hK => ?_)
                  go_simp
                  refine hK _ _ (fun _ => hS) ?_
                  clear hK
                  (try simp only [Act.put, List.setIfInBounds_toArray, List.set_cons_zero, List.set_cons_succ])
                  refine oneT (i := 7) (by kernel_rfl) rfl (by rfl) (fun K hK => ?_)
                  refine wp_append_sl _ (.tmp 48) (.tmp 50) 22 rfl wq.heap.size 26 i0 _ 24 Try.underlying22 hi0 hz0 hz1 hz2 rfl L1 p cL1 (vs.take p) rfl (HO1.out.keep (below_new w1 _)) (some ⟨w1.heap.size, 0, none⟩) 1 1 [.slice X nx cx] rfl (sl_one w1 26 (.slice X nx cx) rfl) (by simp [Value.oneCell']) (by simp only [maxLen]; omega) (by omega) (by first | omega | (simp; omega)) ?_
                  intro L2 cL2 w2 hO2 hG2 hA2
                  have HB2 := Lib.hid (below_grown (below_alloc HB1.out _) (HO1.out.keep (below_new w1 _)) (Nat.le_refl _) hG2)
                  have HO2 := Lib.hid hO2
                  have lw2 := HB2.out.size
                  clear hO2 hG2 hA2
                  refine hK _ _ (fun _ => hS) ?_
                  clear hK
                  (try simp only [Act.put, List.setIfInBounds_toArray, List.set_cons_zero, List.set_cons_succ])
                  refine oneT (i := 11) (by kernel_rfl) rfl (by rfl) (fun K hK => ?_)
                  refine wp_append_sl _ (.tmp 51) (.tmp 54) 22 rfl wq.heap.size 26 i0 _ 24 Try.underlying22 hi0 hz0 hz1 hz2 rfl L2 (p + 1) cL2 _ rfl HO2.out (some ⟨g, p, none⟩) 0 (cl - p) (vs.drop p) rfl (HDR.out.keep HB2.out) HDO.out (by simp only [maxLen]; omega) (by omega) lw2 ?_
                  intro L3 cL3 w3' hO3 hG3 hA3
                  have HB3 := Lib.hid (below_grown HB2.out HO2.out (Nat.le_refl _) hG3)
                  have HO3 := Lib.hid hO3
                  clear hO3 hG3 hA3
                  refine hK _ _ (fun _ => hS) ?_
                  clear hK
                  (try simp only [Act.put, List.setIfInBounds_toArray, List.set_cons_zero, List.set_cons_succ])
                  refine take0 (i := 12) (oi := _) (v := ?_) rfl (by kernel_rfl) (by kernel_rfl) (by kernel_rfl) (fun _ _ _ h => h) rfl (Or.inl ⟨by rfl, ?_⟩) (fun _ => hS) ?_
                  rotate_left
                  · intro w0; go_simp; with_reducible rfl
                  (try simp only [Act.put, List.setIfInBounds_toArray, List.set_cons_zero, List.set_cons_succ])
                  refine doneT (by kernel_rfl) ?_ _
                  go_wp2_with fail
                  go_roundw
                  case rel =>
                    refine ⟨k + 1, p + 1 + 0, cL3, L3, by omega, by omega, rfl, by go_num, ?_, below_next blq.out HB3.out⟩
                    rw [hnext.out, hfin.out]
                    refine ⟨_, HO3.out.mono hwq2, ?_⟩
                    exact ((HRT.out.append (RowsP.one1 IXq.out (Away.own OXq.out))).append HRD.out).keep HB3.out
                  case measure => simp [intOf]; omega
                · go_simp
                  refine hK _ _ (fun _ => hS) ?_
                  clear hK
                  (try simp only [Act.put, List.setIfInBounds_toArray, List.set_cons_zero, List.set_cons_succ])
                  refine oneT (i := 4) (by kernel_rfl) rfl (by rfl) (fun K hK => ?_)
                  refine wp_append_sl _ (.tmp 44) (.tmp 47) 22 rfl wq.heap.size 26 i0 _ 24 Try.underlying22 hi0 hz0 hz1 hz2 rfl (some ⟨wq.heap.size, 0, none⟩) 0 0 [] rfl ((own_empty 26 wq wq.heap.size rfl (Nat.le_refl _)).keep (below_new _ (.cells #[.slice X nx cx] 26))).drew1 (some ⟨g, 0, none⟩) p cl (vs.take p) rfl (HTK.out.keep (below_drew1 (below_alloc (below_new wq _) _))) HTO.out (by simp only [maxLen]; omega) (by omega) (by first | omega | (simp; done) | (simp; omega)) ?_
                  intro L1 cL1 w1 hO1 hG1 hA1
                  have HB1 := Lib.hid (below_grown (below_drew1 (below_alloc (below_new wq _) _)) ((own_empty 26 wq wq.heap.size rfl (Nat.le_refl _)).keep (below_new _ (.cells #[.slice X nx cx] 26))).drew1 (Nat.le_refl _) hG1)
                  have HG1 := Lib.hid hG1
                  have HO1 : Hid (Own 26 w1 wq.heap.size L1 p cL1 (vs.take p)) := by simpa [Hid] using hO1
                  have lw1 := HB1.out.size
                  clear hO1 hG1 hA1
                  refine hK _ _ (fun _ => hS) ?_
                  clear hK
                  (try simp only [Act.put, List.setIfInBounds_toArray, List.set_cons_zero, List.set_cons_succ])
                  (try simp only [Nat.zero_add])
                  refine oneT (i := 7) (by kernel_rfl) rfl (by rfl) (fun K hK => ?_)
                  refine wp_append_sl _ (.tmp 48) (.tmp 50) 22 rfl wq.heap.size 26 i0 _ 24 Try.underlying22 hi0 hz0 hz1 hz2 rfl L1 p cL1 (vs.take p) rfl HO1.out (some ⟨wq.heap.size + 1, 0, none⟩) 1 1 [.slice X nx cx] rfl (Sl.kept1 (Sl.drew1 (sl_one (wq.alloc (.cells #[] 26)) 26 (.slice X nx cx) (by simp))) HG1.out (.inr (by simp [blockOf]))) (by simp [Value.oneCell']) (by simp only [maxLen]; omega) (by omega) (by first | omega | (simp; omega)) ?_
                  intro L2 cL2 w2 hO2 hG2 hA2
                  have HB2 := Lib.hid (below_grown HB1.out HO1.out (Nat.le_refl _) hG2)
                  have HO2 := Lib.hid hO2
                  have lw2 := HB2.out.size
                  clear hO2 hG2 hA2
                  refine hK _ _ (fun _ => hS) ?_
                  clear hK
                  (try simp only [Act.put, List.setIfInBounds_toArray, List.set_cons_zero, List.set_cons_succ])
                  refine oneT (i := 11) (by kernel_rfl) rfl (by rfl) (fun K hK => ?_)
                  refine wp_append_sl _ (.tmp 51) (.tmp 54) 22 rfl wq.heap.size 26 i0 _ 24 Try.underlying22 hi0 hz0 hz1 hz2 rfl L2 (p + 1) cL2 _ rfl HO2.out (some ⟨g, p, none⟩) 0 (cl - p) (vs.drop p) rfl (HDR.out.keep HB2.out) HDO.out (by simp only [maxLen]; omega) (by omega) lw2 ?_
                  intro L3 cL3 w3' hO3 hG3 hA3
                  have HB3 := Lib.hid (below_grown HB2.out HO2.out (Nat.le_refl _) hG3)
                  have HO3 := Lib.hid hO3
                  clear hO3 hG3 hA3
                  refine hK _ _ (fun _ => hS) ?_
                  clear hK
                  (try simp only [Act.put, List.setIfInBounds_toArray, List.set_cons_zero, List.set_cons_succ])
                  refine take0 (i := 12) (oi := _) (v := ?_) rfl (by kernel_rfl) (by kernel_rfl) (by kernel_rfl) (fun _ _ _ h => h) rfl (Or.inl ⟨by rfl, ?_⟩) (fun _ => hS) ?_
                  rotate_left
                  · intro w0; go_simp; with_reducible rfl
                  (try simp only [Act.put, List.setIfInBounds_toArray, List.set_cons_zero, List.set_cons_succ])
                  refine doneT (by kernel_rfl) ?_ _
                  go_wp2_with fail
                  go_roundw
                  case rel =>
                    refine ⟨k + 1, p + 1 + 0, cL3, L3, by omega, by omega, rfl, by go_num, ?_, below_next blq.out HB3.out⟩
                    rw [hnext.out, hfin.out]
                    refine ⟨_, HO3.out.mono hwq2, ?_⟩
                    exact ((HRT.out.append (RowsP.one1 IXq.out (Away.own OXq.out))).append HRD.out).keep HB3.out
                  case measure => simp [intOf]; omega
              · go_simp
                refine hK _ _ (fun _ => hS) ?_
                clear hK
                (try simp only [Act.put, List.setIfInBounds_toArray, List.set_cons_zero, List.set_cons_succ])
                refine oneT (i := 0) (by kernel_rfl) rfl (by rfl) (fun K hK => ?_)
                go_simp
                refine hK _ _ (fun _ => hS) ?_
                clear hK
                (try simp only [Act.put, List.setIfInBounds_toArray, List.set_cons_zero, List.set_cons_succ])
                refine oneT (i := 4) (by kernel_rfl) rfl (by rfl) (fun K hK => ?_)
                refine wp_append_sl _ (.tmp 44) (.tmp 47) 22 rfl wq.heap.size 26 i0 _ 24 Try.underlying22 hi0 hz0 hz1 hz2 rfl (some ⟨wq.heap.size + 1, 0, none⟩) 0 0 [] rfl (own_empty 26 (wq.alloc (.cells #[.slice X nx cx] 26)) wq.heap.size (by simp) (by simp)).drew1 (some ⟨g, 0, none⟩) p cl (vs.take p) rfl (HTK.out.keep (below_drew1 (below_alloc (below_new wq _) _))) HTO.out (by simp only [maxLen]; omega) (by omega) (by first | omega | (simp; done) | (simp; omega)) ?_
                intro L1 cL1 w1 hO1 hG1 hA1
                have HB1 := Lib.hid (below_grown (below_drew1 (below_alloc (below_new wq _) _)) (own_empty 26 (wq.alloc (.cells #[.slice X nx cx] 26)) wq.heap.size (by simp) (by simp)).drew1 (Nat.le_refl _) hG1)
                have HG1 := Lib.hid hG1
                have HO1 : Hid (Own 26 w1 wq.heap.size L1 p cL1 (vs.take p)) := by simpa [Hid] using hO1
                have lw1 := HB1.out.size
                clear hO1 hG1 hA1
                refine hK _ _ (fun _ => hS) ?_
                clear hK
                (try simp only [Act.put, List.setIfInBounds_toArray, List.set_cons_zero, List.set_cons_succ])
                (try simp only [Nat.zero_add])
                refine oneT (i := 7) (by kernel_rfl) rfl (by rfl) (fun K hK => ?_)
                refine wp_append_sl _ (.tmp 48) (.tmp 50) 22 rfl wq.heap.size 26 i0 _ 24 Try.underlying22 hi0 hz0 hz1 hz2 rfl L1 p cL1 (vs.take p) rfl HO1.out (some ⟨wq.heap.size, 0, none⟩) 1 1 [.slice X nx cx] rfl (Sl.kept1 (Sl.drew1 (Sl.keep (sl_one wq 26 (.slice X nx cx) rfl) (below_new _ _))) HG1.out (.inr (by simp [blockOf]))) (by simp [Value.oneCell']) (by simp only [maxLen]; omega) (by omega) (by first | omega | (simp; omega)) ?_
                intro L2 cL2 w2 hO2 hG2 hA2
                have HB2 := Lib.hid (below_grown HB1.out HO1.out (Nat.le_refl _) hG2)
                have HO2 := Lib.hid hO2
                have lw2 := HB2.out.size
                clear hO2 hG2 hA2
                refine hK _ _ (fun _ => hS) ?_
                clear hK
                (try simp only [Act.put, List.setIfInBounds_toArray, List.set_cons_zero, List.set_cons_succ])
                refine oneT (i := 11) (by kernel_rfl) rfl (by rfl) (fun K hK => ?_)
                refine wp_append_sl _ (.tmp 51) (.tmp 54) 22 rfl wq.heap.size 26 i0 _ 24 Try.underlying22 hi0 hz0 hz1 hz2 rfl L2 (p + 1) cL2 _ rfl HO2.out (some ⟨g, p, none⟩) 0 (cl - p) (vs.drop p) rfl (HDR.out.keep HB2.out) HDO.out (by simp only [maxLen]; omega) (by omega) lw2 ?_
                intro L3 cL3 w3' hO3 hG3 hA3
                have HB3 := Lib.hid (below_grown HB2.out HO2.out (Nat.le_refl _) hG3)
                have HO3 := Lib.hid hO3
                clear hO3 hG3 hA3
                refine hK _ _ (fun _ => hS) ?_
                clear hK
                (try simp only [Act.put, List.setIfInBounds_toArray, List.set_cons_zero, List.set_cons_succ])
                refine take0 (i := 12) (oi := _) (v := ?_) rfl (by kernel_rfl) (by kernel_rfl) (by kernel_rfl) (fun _ _ _ h => h) rfl (Or.inl ⟨by rfl, ?_⟩) (fun _ => hS) ?_
                rotate_left
                · intro w0; go_simp; with_reducible rfl
                (try simp only [Act.put, List.setIfInBounds_toArray, List.set_cons_zero, List.set_cons_succ])
                refine doneT (by kernel_rfl) ?_ _
                go_wp2_with fail
                go_roundw
                case rel =>
                  refine ⟨k + 1, p + 1 + 0, cL3, L3, by omega, by omega, rfl, by go_num, ?_, below_next blq.out HB3.out⟩
                  rw [hnext.out, hfin.out]
                  refine ⟨_, HO3.out.mono hwq2, ?_⟩
                  exact ((HRT.out.append (RowsP.one1 IXq.out (Away.own OXq.out))).append HRD.out).keep HB3.out
                case measure => simp [intOf]; omega
    · have hres : Hid (OwnP 26 3 wo w.heap.size 0 Lf nl cl (normF xss)) := by have := hown.out; rw [List.take_of_length_le (by rw [hlen.out]; omega)] at this; exact this
      clear hown
      go_wp2_with fail
      go_ret
      exact ⟨Lf, nl, cl, rfl, hres.out, hbl.out⟩
end Go.Proofs.Ytecgmgidfjbamaa
