/- Contracts of the reference's without, Subbed. (Printed by wip/tools/subbed.py.) -/
import Derived.Test.YtecgmgidfjbamaaNormalRef
import Derived.Test.YtecgmgidfjbamaaSubSnd
import Derived.Test.YtecgmgidfjbamaaCloneR
namespace Go.Proofs.Ytecgmgidfjbamaa
open Go.RowKit
set_option linter.unusedSimpArgs false

set_option maxHeartbeats 4000000 in
set_option maxRecDepth 100000 in
theorem without_ref (A : Option Addr) (n c low k : Nat) (l : List (List Int)) (w : World) (vs : List Value) (hs : Sl w A n c vs) (h : RowsP 3 w low vs l) (hn : n ≤ 1000000) (_hlow : low ≤ w.heap.size) (hk : k < n) :
    Calls Try.prog 65 #[.slice A n c, .int .i64 k] w (RetRowsP low (l.eraseIdx k) w) := by
  obtain ⟨i0, hi0, hz0, hz1, hz2⟩ := info_parts row_info
  obtain ⟨b, off, _, rfl, _, _, _⟩ := hs.cell hk
  have hle := hs.le
  have hcm : c ≤ 9223372036854775807 := by have := hs.cap; unfold maxLen at this; omega
  have hvl := Lib.hid hs.len
  have HTK : Hid (Sl w (some ⟨b, off, none⟩) k c (vs.take k)) := hs.take (by omega)
  have HRT := Lib.hid (h.take k)
  have HRD := Lib.hid (h.drop (k + 1))
  have HER : Hid (l.eraseIdx k = l.take k ++ l.drop (k + 1)) := List.eraseIdx_eq_take_drop_succ _ _
  have y1 : (0 : Int) ≤ (k : Int) := by omega
  have y2 : (k : Int) ≤ (n : Int) := by omega
  have y3 : (k : Int) ≤ (c : Int) := by omega
  have y4 : (0 : Int) ≤ (k : Int) + 1 := by omega
  have y5 : (k : Int) + 1 ≤ (n : Int) := by omega
  have y6 : (n : Int) ≤ (c : Int) := by omega
  have zz : (k : Int) ≤ (k : Int) + 1 := by omega
  have zw : IntKind.i64.wrap ((k : Int) + 1) = (k : Int) + 1 := IntWalk.i64_in _ (by omega)
  have zt : ((k : Int) + 1).toNat = k + 1 := by omega
  have HS := Lib.hid hs
  clear hs h
  by_cases hck : c = k + 1
  · subst hck
    obtain rfl : n = k + 1 := by omega
    have HDR : Hid (Sl w (some ⟨b, off, none⟩) 0 0 (vs.drop (k + 1))) := by rw [List.drop_of_length_le (by rw [hvl.out]; omega)]; exact Sl.nilAny (Nat.zero_le _)
    go_enter Try.func65, Try.ntmps65
    go_wp2_with fail
    have hS : True := trivial
    refine wp_region_tail (fun _ => True) [] (by kernel_rfl) ?_
    refine take0 (i := 1) (oi := _) (v := ?_) rfl (by kernel_rfl) (by kernel_rfl) (by kernel_rfl) (fun _ _ _ h => h) rfl (Or.inl ⟨by rfl, ?_⟩) (fun _ => hS) ?_
    rotate_left
    · intro w0; go_simp; with_reducible rfl
    (try simp only [Act.put, List.setIfInBounds_toArray, List.set_cons_zero, List.set_cons_succ])
    refine take0 (i := 2) (oi := _) (v := ?_) rfl (by kernel_rfl) (by kernel_rfl) (by kernel_rfl) (fun _ _ _ h => h) rfl (Or.inl ⟨by rfl, ?_⟩) (fun _ => hS) ?_
    rotate_left
    · intro w0; go_simp; with_reducible rfl
    (try simp only [Act.put, List.setIfInBounds_toArray, List.set_cons_zero, List.set_cons_succ])
    refine take0 (i := 3) (oi := _) (v := ?_) rfl (by kernel_rfl) (by kernel_rfl) (by kernel_rfl) (fun _ _ _ h => h) rfl (Or.inl ⟨by rfl, ?_⟩) (fun _ => hS) ?_
    rotate_left
    · intro w0; go_simp; with_reducible rfl
    (try simp only [Act.put, List.setIfInBounds_toArray, List.set_cons_zero, List.set_cons_succ])
    refine take0 (i := 5) (oi := _) (v := ?_) rfl (by kernel_rfl) (by kernel_rfl) (by kernel_rfl) (fun _ _ _ h => h) rfl (Or.inl ⟨by rfl, ?_⟩) (fun _ => hS) ?_
    rotate_left
    · intro w0; go_simp; with_reducible rfl
    (try simp only [Act.put, List.setIfInBounds_toArray, List.set_cons_zero, List.set_cons_succ])
    refine take0 (i := 6) (oi := _) (v := ?_) rfl (by kernel_rfl) (by kernel_rfl) (by kernel_rfl) (fun _ _ _ h => h) rfl (Or.inl ⟨by rfl, ?_⟩) (fun _ => hS) ?_
    rotate_left
    · intro w0; go_simp; with_reducible rfl
    (try simp only [Act.put, List.setIfInBounds_toArray, List.set_cons_zero, List.set_cons_succ])
    refine take0 (i := 7) (oi := _) (v := ?_) rfl (by kernel_rfl) (by kernel_rfl) (by kernel_rfl) (fun _ _ _ h => h) rfl (Or.inl ⟨by rfl, ?_⟩) (fun _ => hS) ?_
    rotate_left
    · intro w0; go_simp; with_reducible rfl
    (try simp only [Act.put, List.setIfInBounds_toArray, List.set_cons_zero, List.set_cons_succ])
    refine take0 (i := 8) (oi := _) (v := ?_) rfl (by kernel_rfl) (by kernel_rfl) (by kernel_rfl) (fun _ _ _ h => h) rfl (Or.inl ⟨by rfl, ?_⟩) (fun _ => hS) ?_
    rotate_left
    · intro w0; go_simp; with_reducible rfl
    (try simp only [Act.put, List.setIfInBounds_toArray, List.set_cons_zero, List.set_cons_succ])
    refine oneT (i := 0) (by kernel_rfl) rfl (by rfl) (fun K hK => ?_)
    go_simp
    refine hK _ _ (fun _ => hS) ?_
    clear hK
    (try simp only [Act.put, List.setIfInBounds_toArray, List.set_cons_zero, List.set_cons_succ])
    refine oneT (i := 4) (by kernel_rfl) rfl (by rfl) (fun K hK => ?_)
    refine wp_append_sl _ (.tmp 5) (.tmp 8) 22 rfl w.heap.size 26 i0 _ 24 Try.underlying22 hi0 hz0 hz1 hz2 rfl (some ⟨w.heap.size, 0, none⟩) 0 0 [] rfl (own_empty 26 w w.heap.size rfl (Nat.le_refl _)).drew1 (some ⟨b, off, none⟩) k (k + 1) (vs.take k) rfl (HTK.out.keep (below_drew1 (below_new w _))) HRT.out.one (by simp only [maxLen]; omega) (by omega) (by first | omega | (simp; done) | (simp; omega)) ?_
    intro L1 cL1 w1 hO1 hG1 hA1
    have HB1 := Lib.hid (below_grown (below_drew1 (below_new w _)) (own_empty 26 w w.heap.size rfl (Nat.le_refl _)).drew1 (Nat.le_refl _) hG1)
    have HO1 : Hid (Own 26 w1 w.heap.size L1 k cL1 (vs.take k)) := by simpa [Hid] using hO1
    have lw1 := HB1.out.size
    clear hO1 hG1 hA1
    refine hK _ _ (fun _ => hS) ?_
    clear hK
    (try simp only [Act.put, List.setIfInBounds_toArray, List.set_cons_zero, List.set_cons_succ])
    (try simp only [Nat.zero_add])
    refine oneT (i := 9) (by kernel_rfl) rfl (by rfl) (fun K hK => ?_)
    refine wp_append_sl _ (.tmp 9) (.tmp 13) 22 rfl w.heap.size 26 i0 _ 24 Try.underlying22 hi0 hz0 hz1 hz2 rfl L1 k cL1 (vs.take k) rfl HO1.out (some ⟨b, off, none⟩) 0 0 (vs.drop (k + 1)) rfl (HDR.out.keep HB1.out) HRD.out.one (by simp only [maxLen]; omega) (by omega) lw1 ?_
    intro L2 cL2 w2 hO2 hG2 hA2
    have HB2 := Lib.hid (below_grown HB1.out HO1.out (Nat.le_refl _) hG2)
    have HO2 := Lib.hid hO2
    clear hO2 hG2 hA2
    refine hK _ _ (fun _ => hS) ?_
    clear hK
    (try simp only [Act.put, List.setIfInBounds_toArray, List.set_cons_zero, List.set_cons_succ])
    refine take0 (i := 10) (oi := _) (v := ?_) rfl (by kernel_rfl) (by kernel_rfl) (by kernel_rfl) (fun _ _ _ h => h) rfl (Or.inl ⟨by rfl, ?_⟩) (fun _ => hS) ?_
    rotate_left
    · intro w0; go_simp; with_reducible rfl
    (try simp only [Act.put, List.setIfInBounds_toArray, List.set_cons_zero, List.set_cons_succ])
    refine doneT (by kernel_rfl) ?_ _
    (try simp only [Act.put, List.getElem_toArray, List.getElem_cons_succ, List.getElem_cons_zero, List.setIfInBounds_toArray, List.set_cons_zero, List.set_cons_succ])
    go_wp2_with fail
    go_ret
    exact ⟨L2, k + 0, cL2, by first | rfl | (simp; done) | (simp [Act.put]; done), by rw [HER.out]; exact ⟨_, HO2.out, (HRT.out.append HRD.out).keep HB2.out⟩, HB2.out⟩
  · have HDR : Hid (Sl w (some ⟨b, off + (k + 1), none⟩) (n - (k + 1)) (c - (k + 1)) (vs.drop (k + 1))) := HS.out.drop (by omega)
    have z1 : (c : Int) ≠ (k : Int) + 1 := by omega
    go_enter Try.func65, Try.ntmps65
    go_wp2_with fail
    have hS : True := trivial
    refine wp_region_tail (fun _ => True) [] (by kernel_rfl) ?_
    refine take0 (i := 1) (oi := _) (v := ?_) rfl (by kernel_rfl) (by kernel_rfl) (by kernel_rfl) (fun _ _ _ h => h) rfl (Or.inl ⟨by rfl, ?_⟩) (fun _ => hS) ?_
    rotate_left
    · intro w0; go_simp; with_reducible rfl
    (try simp only [Act.put, List.setIfInBounds_toArray, List.set_cons_zero, List.set_cons_succ])
    refine take0 (i := 2) (oi := _) (v := ?_) rfl (by kernel_rfl) (by kernel_rfl) (by kernel_rfl) (fun _ _ _ h => h) rfl (Or.inl ⟨by rfl, ?_⟩) (fun _ => hS) ?_
    rotate_left
    · intro w0; go_simp; with_reducible rfl
    (try simp only [Act.put, List.setIfInBounds_toArray, List.set_cons_zero, List.set_cons_succ])
    refine take0 (i := 3) (oi := _) (v := ?_) rfl (by kernel_rfl) (by kernel_rfl) (by kernel_rfl) (fun _ _ _ h => h) rfl (Or.inl ⟨by rfl, ?_⟩) (fun _ => hS) ?_
    rotate_left
    · intro w0; go_simp; with_reducible rfl
    (try simp only [Act.put, List.setIfInBounds_toArray, List.set_cons_zero, List.set_cons_succ])
    refine take0 (i := 5) (oi := _) (v := ?_) rfl (by kernel_rfl) (by kernel_rfl) (by kernel_rfl) (fun _ _ _ h => h) rfl (Or.inl ⟨by rfl, ?_⟩) (fun _ => hS) ?_
    rotate_left
    · intro w0; go_simp; with_reducible rfl
    (try simp only [Act.put, List.setIfInBounds_toArray, List.set_cons_zero, List.set_cons_succ])
    refine take0 (i := 6) (oi := _) (v := ?_) rfl (by kernel_rfl) (by kernel_rfl) (by kernel_rfl) (fun _ _ _ h => h) rfl (Or.inl ⟨by rfl, ?_⟩) (fun _ => hS) ?_
    rotate_left
    · intro w0; go_simp; with_reducible rfl
    (try simp only [Act.put, List.setIfInBounds_toArray, List.set_cons_zero, List.set_cons_succ])
    refine take0 (i := 7) (oi := _) (v := ?_) rfl (by kernel_rfl) (by kernel_rfl) (by kernel_rfl) (fun _ _ _ h => h) rfl (Or.inl ⟨by rfl, ?_⟩) (fun _ => hS) ?_
    rotate_left
    · intro w0; go_simp; with_reducible rfl
    (try simp only [Act.put, List.setIfInBounds_toArray, List.set_cons_zero, List.set_cons_succ])
    refine take0 (i := 8) (oi := _) (v := ?_) rfl (by kernel_rfl) (by kernel_rfl) (by kernel_rfl) (fun _ _ _ h => h) rfl (Or.inl ⟨by rfl, ?_⟩) (fun _ => hS) ?_
    rotate_left
    · intro w0; go_simp; with_reducible rfl
    (try simp only [Act.put, List.setIfInBounds_toArray, List.set_cons_zero, List.set_cons_succ])
    refine oneT (i := 0) (by kernel_rfl) rfl (by rfl) (fun K hK => ?_)
    go_simp
    refine hK _ _ (fun _ => hS) ?_
    clear hK
    (try simp only [Act.put, List.setIfInBounds_toArray, List.set_cons_zero, List.set_cons_succ])
    refine oneT (i := 4) (by kernel_rfl) rfl (by rfl) (fun K hK => ?_)
    refine wp_append_sl _ (.tmp 5) (.tmp 8) 22 rfl w.heap.size 26 i0 _ 24 Try.underlying22 hi0 hz0 hz1 hz2 rfl (some ⟨w.heap.size, 0, none⟩) 0 0 [] rfl (own_empty 26 w w.heap.size rfl (Nat.le_refl _)).drew1 (some ⟨b, off, none⟩) k c (vs.take k) rfl (HTK.out.keep (below_drew1 (below_new w _))) HRT.out.one (by simp only [maxLen]; omega) (by omega) (by first | omega | (simp; done) | (simp; omega)) ?_
    intro L1 cL1 w1 hO1 hG1 hA1
    have HB1 := Lib.hid (below_grown (below_drew1 (below_new w _)) (own_empty 26 w w.heap.size rfl (Nat.le_refl _)).drew1 (Nat.le_refl _) hG1)
    have HO1 : Hid (Own 26 w1 w.heap.size L1 k cL1 (vs.take k)) := by simpa [Hid] using hO1
    have lw1 := HB1.out.size
    clear hO1 hG1 hA1
    refine hK _ _ (fun _ => hS) ?_
    clear hK
    (try simp only [Act.put, List.setIfInBounds_toArray, List.set_cons_zero, List.set_cons_succ])
    (try simp only [Nat.zero_add])
    refine oneT (i := 9) (by kernel_rfl) rfl (by rfl) (fun K hK => ?_)
    refine wp_append_sl _ (.tmp 9) (.tmp 13) 22 rfl w.heap.size 26 i0 _ 24 Try.underlying22 hi0 hz0 hz1 hz2 rfl L1 k cL1 (vs.take k) rfl HO1.out (some ⟨b, off + (k + 1), none⟩) (n - (k + 1)) (c - (k + 1)) (vs.drop (k + 1)) rfl (HDR.out.keep HB1.out) HRD.out.one (by simp only [maxLen]; omega) (by omega) lw1 ?_
    intro L2 cL2 w2 hO2 hG2 hA2
    have HB2 := Lib.hid (below_grown HB1.out HO1.out (Nat.le_refl _) hG2)
    have HO2 := Lib.hid hO2
    clear hO2 hG2 hA2
    refine hK _ _ (fun _ => hS) ?_
    clear hK
    (try simp only [Act.put, List.setIfInBounds_toArray, List.set_cons_zero, List.set_cons_succ])
    refine take0 (i := 10) (oi := _) (v := ?_) rfl (by kernel_rfl) (by kernel_rfl) (by kernel_rfl) (fun _ _ _ h => h) rfl (Or.inl ⟨by rfl, ?_⟩) (fun _ => hS) ?_
    rotate_left
    · intro w0; go_simp; with_reducible rfl
    (try simp only [Act.put, List.setIfInBounds_toArray, List.set_cons_zero, List.set_cons_succ])
    refine doneT (by kernel_rfl) ?_ _
    (try simp only [Act.put, List.getElem_toArray, List.getElem_cons_succ, List.getElem_cons_zero, List.setIfInBounds_toArray, List.set_cons_zero, List.set_cons_succ])
    go_wp2_with fail
    go_ret
    exact ⟨L2, k + (n - (k + 1)), cL2, by first | rfl | (simp; done) | (simp [Act.put]; done), by rw [HER.out]; exact ⟨_, HO2.out, (HRT.out.append HRD.out).keep HB2.out⟩, HB2.out⟩

theorem RetNorm_swap {l : List (List Int)} {k : Nat} (hk : k < l.length) {y : List Int} {w : World} : RetNorm (l.eraseIdx k ++ [y]) w = RetNorm (l.set k y) w := by
  unfold RetNorm
  rw [norm_swap hk]
set_option maxHeartbeats 8000000 in
set_option maxRecDepth 100000 in
theorem subbed_ref (A : Option Addr) (n c : Nat) (xss : List (List Int)) (vars : Int) (w : World) (h : Grid w A n c xss) (v0 : 0 ≤ vars) (v1 : vars ≤ 120) (hn : n ≤ 400) (hrows : ∀ x ∈ xss, x.length ≤ 24 ∧ Lits vars x) :
    Calls Try.prog 35 #[.slice A n c] w (fun e w' => ∃ A' n' c', e = .returned (.slice A' n' c') ∧ Grid w' A' n' c' (subbed xss) ∧ Below w.heap.size w w') := by
  have hbd := h.bd
  have hlen := Lib.hid h.len
  obtain ⟨i0, hi0, hz0, hz1, hz2⟩ := info_parts row_info
  obtain ⟨j0, hj0, hy0, hy1, hy2⟩ := info_parts int_info
  have HTD : Hid (Tidy vars (normF xss)) := norm_tidy hrows
  obtain ⟨R, hR⟩ : ∃ R, Hid (subF (muF (normF xss) + 1) (normF xss) = R) := ⟨_, rfl⟩
  have hRR : subbed xss = R := hR.out
  rw [hRR]
  have HSB : Hid (∀ xs ∈ xss, ∀ x ∈ xs, -1000000 ≤ x ∧ x ≤ 1000000) := fun xs hx x hx' => by have := (hrows xs hx).2.1 x hx'; omega
  have HWD : Hid (∀ xs ∈ xss, xs.length ≤ 1000000) := fun xs hx => by have := (hrows xs hx).1; omega
  have G := Lib.hid h
  clear h hrows hRR
  go_enter Try.func35, Try.ntmps35
  go_wp2_with fail
  refine (normal_ref _ _ _ xss _ G.out HSB.out HWD.out (by omega)).mono ?_
  rintro e w1 ⟨A1, n1, c1, rfl, hO1, hb1⟩
  obtain ⟨hl1, hnc1, hc1⟩ := hO1.len'
  have hn1 : n1 ≤ 400 := by have := normF_len xss; have := hlen.out; omega
  have O1 := Lib.hid hO1
  have B1 := Lib.hid hb1
  clear hO1 hb1 hl1
  go_wp2_with fail
  go_loopg [0] (muF (normF xss) + 1) (fun f s wr => ∃ (A : Option Addr) (n c : Nat) (l : List (List Int)), s = .slice A n c ∧ n ≤ 400 ∧ Hid (OwnP 26 3 wr w.heap.size 0 A n c l) ∧ Hid (Tidy vars l) ∧ Hid (muF l < f) ∧ Hid (subF f l = R) ∧ Hid (Below w.heap.size w wr))
  case atStart => exact ⟨A1, n1, c1, normF xss, rfl, hn1, O1, HTD, Nat.lt_succ_self _, hR, B1⟩
  case round =>
    clear O1 B1 HTD hR
    obtain ⟨L, nl, cl, l, rfl, hn4, hO, hT, hM, hS, hbl⟩ := hrel
    cases gk with
    | zero => exfalso; have := hM.out; omega
    | succ f =>
    obtain ⟨hll, hnc, hc63⟩ := hO.out.len'
    have HLL := Lib.hid hll
    have hwz := hbl.out.size
    have HLT : Hid (∀ x ∈ l, Lits vars x) := fun x hx => (hT.out.2 x hx).2
    obtain ⟨r, hr1⟩ : ∃ r, Hid (fstF l = r) := ⟨_, rfl⟩
    have hS2 : Hid ((if 0 ≤ r then subF f (l.eraseIdx r.toNat) else if (sndF l).2 = 0 then l else subF f (normF (l.set (sndF l).1 (cutF l (sndF l).1 (sndF l).2)))) = R) := by have := hS.out; rw [subF, hr1.out] at this; exact this
    clear hll hS
    go_wp2_with fail
    refine (first_ref _ _ _ l wr hO.out.grid r hr1).mono ?_
    rintro e w2 ⟨rfl, m2, hw2⟩
    have hb2 : Below wr.heap.size wr w2 := by rw [hw2]; exact below_drewN _ _
    have O2 := Lib.hid (hO.out.keep hb2)
    have BL2 := Lib.hid (below_next hbl.out hb2)
    have hwz2 := BL2.out.size
    clear hb2 hO hbl hw2
    by_cases hr0 : 0 ≤ r
    · have hfl := fstF_lt (l := l) (by rw [hr1.out]; exact hr0)
      rw [hr1.out, HLL.out] at hfl
      obtain ⟨k, rfl⟩ : ∃ k : Nat, r = k := ⟨r.toNat, by omega⟩
      simp only [Int.toNat_natCast] at hfl
      have hS3 : Hid (subF f (l.eraseIdx k) = R) := by have := hS2.out; rw [if_pos hr0] at this; simpa [Hid] using this
      have hM3 : Hid (muF (l.eraseIdx k) < f) := by have h1 := muF_erase (l := l) (k := k) (by rw [HLL.out]; exact hfl); have h2 := hM.out; show _ < _; omega
      obtain ⟨vs, hv1, hv2⟩ := O2.out
      have HV1 := Lib.hid hv1.sl
      have HV2 := Lib.hid hv2
      clear hv1 hv2
      go_wp2_with fail
      refine (without_ref _ _ _ 0 k l w2 vs HV1.out HV2.out (by omega) (Nat.zero_le _) hfl).mono ?_
      rintro e w3 ⟨A3, n3, c3, rfl, hO3, hb3⟩
      have hn3 : n3 ≤ 400 := by have h1 := hO3.len; rw [List.length_eraseIdx_of_lt (by rw [HLL.out]; exact hfl), HLL.out] at h1; omega
      have O3 := Lib.hid (hO3.mono (base' := w.heap.size) hwz2 (Nat.le_refl _))
      have BL3 := Lib.hid (below_next BL2.out hb3)
      clear hO3 hb3
      go_wp2_with fail
      go_roundg f
      case rel => exact ⟨A3, n3, c3, l.eraseIdx k, rfl, hn3, O3, hT.out.erase k, hM3, hS3, BL3⟩
      case measure => omega
    · have hS3 : Hid ((if (sndF l).2 = 0 then l else subF f (normF (l.set (sndF l).1 (cutF l (sndF l).1 (sndF l).2)))) = R) := by have := hS2.out; rw [if_neg hr0] at this; exact this
      obtain ⟨s1, s2, hsn⟩ : ∃ a b, Hid (sndF l = (a, b)) := ⟨_, _, rfl⟩
      obtain ⟨s0, hs0⟩ : ∃ s0, Hid ((if s2 = 0 then (-1 : Int) else (s1 : Int)) = s0) := ⟨_, rfl⟩
      have hS4 : Hid ((if s2 = 0 then l else subF f (normF (l.set s1 (cutF l s1 s2)))) = R) := by have := hS3.out; rw [hsn.out] at this; exact this
      clear hS2 hS3
      go_wp2_with fail
      refine (second_ref _ _ _ l vars w2 O2.out.grid HLT.out v0 (by omega) (by omega) s1 s2 s0 hsn hs0).mono ?_
      rintro e w3 ⟨rfl, hb3⟩
      have O3 := Lib.hid (O2.out.keep hb3)
      have BL3 := Lib.hid (below_next BL2.out hb3)
      have hwz3 := BL3.out.size
      clear hb3 O2 BL2
      by_cases hs2 : s2 = 0
      · subst hs2
        obtain rfl : l = R := by have := hS4.out; rw [if_pos rfl] at this; exact this
        obtain rfl : -1 = s0 := by have := hs0.out; rw [if_pos rfl] at this; exact this
        go_wp2_with fail
        go_ret
        exact ⟨L, nl, cl, rfl, O3.out.grid, BL3.out⟩
      · have hS5 : Hid (subF f (normF (l.set s1 (cutF l s1 s2))) = R) := by have := hS4.out; rw [if_neg hs2] at this; exact this
        obtain rfl : (s1 : Int) = s0 := by have := hs0.out; rw [if_neg hs2] at this; exact this
        have hsl := sndF_lt (l := l) (by rw [hsn.out]; exact hs2)
        rw [hsn.out] at hsl
        simp only at hsl
        have HSL := Lib.hid hsl
        rw [HLL.out] at hsl
        obtain ⟨pa, _, b, x, hbk, hx2, _⟩ := sndF_spec (l := l) (by rw [hsn.out]; exact hs2)
        rw [hsn.out] at hbk hx2
        simp only at hbk hx2
        have hM5 : Hid (muF (normF (l.set s1 (cutF l s1 s2))) < f) := by have h1 := mu_snd (l := l) (by rw [hsn.out]; exact hs2); rw [hsn.out] at h1; have h2 := hM.out; simp only at h1; show _ < _; omega
        have hT5 : Hid (Tidy vars (normF (l.set s1 (cutF l s1 s2)))) := by have h1 := hT.out.cut (by rw [hsn.out]; exact hs2); rw [hsn.out] at h1; exact h1
        have hcut := Lib.hid (cutF_eq hbk s2)
        obtain ⟨g, X, nx, cx, b', hLe, hg0, hgl, hcx, hfx, hX, hAX, hbk'⟩ := O3.out.round hsl
        obtain rfl : b' = b := by have := hbk'.out; rw [hbk] at this; cases this; rfl
        subst hLe
        have hlb := Lib.hid (HLT.out b' (List.mem_of_getElem? hbk))
        have hnx : nx ≤ 24 := by have h1 := (hT.out.2 b' (List.mem_of_getElem? hbk)).1; rw [hX.len] at h1; exact h1
        have HX := Lib.hid hX
        have hxl := Lib.hid hX.len
        have hbdx := hX.bd
        have HBK := Lib.hid hbk
        have y1 : (0 : Int) ≤ (s1 : Int) := by omega
        have y2 : (s1 : Int) < (nl : Int) := by omega
        have d0 : ¬ (s1 : Int) < 0 := by omega
        clear hX hAX hbk' hS4 hx2 hbk
        go_wp2_with fail
        go_loopw [5, 6] (fun o i wr => ∃ (p ml dl : Nat) (M : Option Addr), p ≤ nx ∧ ml ≤ p ∧ o = .slice M ml dl ∧ i = .int .i64 p ∧ Hid (Own 3 wr w3.heap.size M ml dl (((b'.take p).filter (fun y => y != s2)).map (Value.int .i64))) ∧ Hid (Below w3.heap.size w3 wr)) (fun _ i _ => nx - (intOf i).toNat)
        case atStart => exact ⟨0, 0, 0, none, Nat.zero_le _, Nat.le_refl _, rfl, rfl, by simpa [Hid] using Own.nil _ _ _, Below.refl _ _⟩
        case round =>
          obtain ⟨p, ml, dl, M, hp, hml, rfl, rfl, hown, hbp⟩ := hrel
          have cx3 := keepBox hbp.out hcx
          have lg3 : g < wr.heap.size := (cell_lt cx3).1
          have hwzp := hbp.out.size
          by_cases hpn : p < nx
          · obtain ⟨b3, off3, y, hXe, hb3, hcell3, u1, u2, hyp⟩ := (HX.out.keep hbp.out).round hpn
            subst hXe
            have y3 : (0 : Int) ≤ (p : Int) := by omega
            have y4 : (p : Int) < (nx : Int) := by omega
            have hft : Hid ((b'.take (p + 1)).filter (fun y => y != s2) = (b'.take p).filter (fun y => y != s2) ++ (if y != s2 then [y] else [])) := by
              rw [take_snoc_of hyp.out, List.filter_append]
              cases hys : (y != s2) <;> simp [hys, Hid]
            cases hys : (y != s2)
            · go_wp2_with fail
              go_roundw
              case rel => exact ⟨p + 1, ml, dl, M, by omega, by omega, rfl, by go_num, by rw [hft.out, hys]; simpa [Hid] using hown.out, hbp⟩
              case measure => simp [intOf]; omega
            · have hSx := ints_made wr 3 [y] rfl (by simp [I64]; omega) (by simp [maxLen])
              go_wp2_with (first
                | (at_builtin
                   refine wpList_append_sl _ rfl (.tmp 42) (.tmp 50) _ rfl w3.heap.size 3 j0 _ 8 Try.underlying26 hj0 hy0 hy1 hy2 rfl M ml dl _ rfl (hown.out.keep (below_new _ _)) (some ⟨wr.heap.size, 0, none⟩) 1 1 _ rfl hSx.sl (ints_one _) (by simp only [maxLen]; omega) (by omega) (by simp; omega) ?_
                   intro M1 d1 w6 hM1 hg1 hat1
                   have HM1 := Lib.hid hM1
                   have HB6 := Lib.hid (below_grown (below_alloc hbp.out (.cells #[.int .i64 y] 3)) (hown.out.keep (below_new wr (.cells #[.int .i64 y] 3))) (Nat.le_refl _) hg1)
                   clear hM1 hg1 hat1))
              go_roundw
              case rel => exact ⟨p + 1, ml + 1, d1, M1, by omega, by omega, rfl, by go_num, by rw [hft.out, hys]; simpa [Hid] using HM1.out, HB6⟩
              case measure => simp [intOf]; omega
          · have HOc : Hid (Own 3 wr w3.heap.size M ml dl ((cutF l s1 s2).map (Value.int .i64))) := by have := hown.out; rw [List.take_of_length_le (by rw [hxl.out]; omega)] at this; rw [hcut.out]; exact this
            have HIc : Hid (Ints wr M ml dl (cutF l s1 s2)) := HOc.out.ints (fun z hz => by rw [hcut.out] at hz; have := hlb.out.1 z (List.mem_filter.1 hz).1; unfold I64; omega)
            have O4 := Lib.hid (O3.out.keep hbp.out)
            have BL4 := Lib.hid (below_next BL3.out hbp.out)
            have hwz4 := BL4.out.size
            obtain ⟨vs, hv1, hv2⟩ := O4.out
            have HV1 := Lib.hid hv1.sl
            have HV2 := Lib.hid hv2
            clear hv1 hv2 hown
            go_wp2_with fail
            refine (without_ref _ _ _ 0 s1 l wr vs HV1.out HV2.out (by omega) (Nat.zero_le _) hsl).mono ?_
            rintro e w5 ⟨A5, n5, c5, rfl, hO5, hb5⟩
            have hn5 : n5 ≤ 400 := by have h1 := hO5.len; rw [List.length_eraseIdx_of_lt HSL.out, HLL.out] at h1; omega
            have hn5' : Hid ((l.eraseIdx s1).length = n5) := hO5.len
            have HIc5 := Lib.hid (HIc.out.keep hb5)
            have HOc5 := Lib.hid (HOc.out.keep hb5)
            have BL5 := Lib.hid (below_next BL4.out hb5)
            have hwz5 := hb5.size
            obtain ⟨us, hu1, hu2⟩ := hO5
            have HU1 := Lib.hid (hu1.keep (below_new w5 (.cells #[.slice M ml dl] 26)))
            have HU2 := Lib.hid (hu2.keep (below_new w5 (.cells #[.slice M ml dl] 26)))
            have hS1 := sl_one w5 26 (.slice M ml dl) rfl
            have HB5 := Lib.hid hb5
            clear hu1 hu2 hb5
            go_wp2_with (first
              | (at_builtin
                 refine wpList_append_sl _ rfl (.tmp 54) (.tmp 56) _ rfl wr.heap.size 26 i0 _ 24 Try.underlying22 hi0 hz0 hz1 hz2 rfl A5 n5 c5 _ rfl HU1.out (some ⟨w5.heap.size, 0, none⟩) 1 1 _ rfl hS1 (by simp [Value.oneCell']) (by simp only [maxLen]; omega) (by omega) (by simp; omega) ?_
                 intro L1 cL1 w6 hL1 hg1 hat1
                 have HP6 := Lib.hid (OwnP.push HU1.out HU2.out (Nat.zero_le _) row_ne (HIc5.out.keep (below_new _ _)) (Away.own (HOc5.out.keep (below_new _ _))) hL1 hg1)
                 have HB6 := Lib.hid (below_next BL4.out (below_grown (below_alloc HB5.out (.cells #[.slice M ml dl] 26)) HU1.out (Nat.le_refl _) hg1))
                 clear hL1 hg1 hat1))
            have HSB6 : Hid (∀ xs ∈ l.eraseIdx s1 ++ [cutF l s1 s2], ∀ z ∈ xs, -1000000 ≤ z ∧ z ≤ 1000000) := fun xs hxs z hz => by
              rcases List.mem_append.1 hxs with hxs | hxs
              · have := (HLT.out xs ((List.eraseIdx_sublist l s1).subset hxs)).1 z hz; omega
              · simp at hxs; subst hxs
                rw [hcut.out] at hz
                have := hlb.out.1 z (List.mem_filter.1 hz).1
                omega
            have HWD6 : Hid (∀ xs ∈ l.eraseIdx s1 ++ [cutF l s1 s2], xs.length ≤ 1000000) := fun xs hxs => by
              rcases List.mem_append.1 hxs with hxs | hxs
              · have := (hT.out.2 xs ((List.eraseIdx_sublist l s1).subset hxs)).1; omega
              · simp at hxs; subst hxs
                rw [hcut.out]
                have h1 := List.length_filter_le (fun y => y != s2) b'
                have h2 := hxl.out
                omega
            refine (normal_ref _ _ _ (l.eraseIdx s1 ++ [cutF l s1 s2]) _ HP6.out.grid HSB6.out HWD6.out (by omega)).mono ?_
            rw [RetNorm_swap HSL.out]
            rintro e w8 ⟨A8, n8, c8, rfl, hO8, hb8⟩
            obtain ⟨hl8, _, _⟩ := hO8.len'
            have hn8 : n8 ≤ 400 := by have h1 := normF_len (l.set s1 (cutF l s1 s2)); rw [hl8, List.length_set, HLL.out] at h1; omega
            have O8 := Lib.hid (hO8.mono (base' := w.heap.size) HB6.out.size (Nat.le_refl _))
            have BL8 := Lib.hid (below_next HB6.out hb8)
            clear hO8 hb8 hl8
            go_wp2_with fail
            go_roundg f
            case rel => exact ⟨A8, n8, c8, _, rfl, hn8, O8, hT5, hM5, hS5, BL8⟩
            case measure => omega
end Go.Proofs.Ytecgmgidfjbamaa
