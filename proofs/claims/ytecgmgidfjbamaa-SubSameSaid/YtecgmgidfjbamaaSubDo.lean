/- Contract of sub.Do. (Printed by wip/tools/subdo.py.) -/
import Derived.Test.YtecgmgidfjbamaaNorm
import Derived.Test.YtecgmgidfjbamaaDelete
import Derived.Test.YtecgmgidfjbamaaDelFunc
import Derived.Test.YtecgmgidfjbamaaSubStr
import Derived.Test.YtecgmgidfjbamaaResCheck
namespace Go.Proofs.Ytecgmgidfjbamaa
open Go.RowKit
set_option linter.unusedSimpArgs false

/-- A formula and no fault. -/
def RetCnfF (vars : Int) (xss : List (List Int)) (w : World) (e : Ending) (w' : World) : Prop :=
  ∃ A n c, e = .returned (.tuple #[.agg #[.int .i64 vars, .slice A n c], .agg #[.int .i64 0, .int .i64 0]]) ∧ Grid w' A n c xss ∧ Below w.heap.size w w'
theorem Grid.recap {w : World} {A : Option Addr} {n c d : Nat} {xss : List (List Int)} (h : Grid w A n c xss) (h1 : n ≤ d) (h2 : d ≤ c) : Grid w A n d xss := by
  obtain ⟨vs, g1, g2, g3⟩ := h.ex
  exact ⟨vs, ⟨g1.len, h1, Nat.le_trans h2 g1.cap, g1.at_⟩, g2, g3⟩

set_option maxHeartbeats 1000000 in
theorem subdo_wrong (A : Option Addr) (n c : Nat) (xss : List (List Int)) (vars : Int) (w : World) (h : Grid w A n c xss) (hv : I64 vars) (r1 r2 : Int) (hr : Hid (checkC vars xss = (r1, r2))) (h0 : r1 ≠ 0) :
    Calls Try.prog 34 #[.agg #[.int .i64 vars, .slice A n c]] w (RetV (.tuple #[.agg #[.int .i64 0, .slice none 0 0], .agg #[.int .i64 r1, .int .i64 r2]]) w) := by
  have d1 : (r1 != 0) = true := by simpa using h0
  have hbW := below_alloc (below_alloc (below_new w (.cells #[.int .i64 vars, .slice A n c] 24)) (.cells #[.int .i64 0, .slice none 0 0] 24)) (.cells #[.int .i64 0, .int .i64 0] 28)
  have g := h.keep hbW
  have HBW := Lib.hid hbW
  clear hbW
  go_enter Try.func34, Try.ntmps34
  go_wp2_with fail
  refine (norm_wrong _ _ _ _ _ _ g hv _ _ hr h0).mono ?_
  rintro e w1 ⟨rfl, hb1⟩
  obtain ⟨_, k3, k4, _, l1⟩ := blk3 hb1
  have hbA := below_alloc (below_new w1 (.cells #[.int .i64 0, .slice none 0 0] 24)) (.cells #[.int .i64 r1, .int .i64 r2] 28)
  obtain ⟨w2, hw2⟩ : ∃ w2 : World, w2 = (w1.alloc (.cells #[.int .i64 0, .slice none 0 0] 24)).alloc (.cells #[.int .i64 r1, .int .i64 r2] 28) := ⟨_, rfl⟩
  have s0 : w2.cell? ⟨w1.heap.size + 1, 0, none⟩ = some (.int .i64 r1) := by rw [hw2]; simp [go_sem]
  have s1 : w2.cell? ⟨w1.heap.size + 1, 1, none⟩ = some (.int .i64 r2) := by rw [hw2]; simp [go_sem]
  rw [← hw2] at hbA
  have k3' := k3.keep hbA
  have k4' := k4.keep hbA
  have r0 := k3'.cell 0
  have q1 := k3'.cell 1
  have rf0 := k3'.frozen 0
  have rf1 := k3'.frozen 1
  have t0 := k4'.cell 0
  have t1 := k4'.cell 1
  have tf0 := k4'.frozen 0
  have tf1 := k4'.frozen 1
  simp at r0 q1 t0 t1
  have HB := Lib.hid (below_next (below_next HBW.out hb1) hbA)
  have l2 : w.heap.size + 1 < w2.heap.size := (cell_lt r0).1
  have l3 : w.heap.size + 1 + 1 < w2.heap.size := (cell_lt t0).1
  have l4 : w1.heap.size + 1 < w2.heap.size := (cell_lt s0).1
  have n1 : w1.heap.size + 1 ≠ w.heap.size + 1 := by omega
  have n2 : w1.heap.size + 1 ≠ w.heap.size + 1 + 1 := by omega
  have HW2 := Lib.hid hw2
  clear hb1 k3 k4 g k3' k4' hbA hw2
  go_wp2_with fail
  rw [← HW2.out]
  go_region
  go_wp2_with fail
  refine bodyPost_ret (v := .tuple #[.agg #[.int .i64 0, .slice none 0 0], .agg #[.int .i64 r1, .int .i64 r2]]) (by simp [results, Try.results34, go_sem, r0, q1, t0, t1, l2, l3]) rfl ⟨rfl, ?_⟩
  exact (below_put2 (below_put2 HB.out (g := w.heap.size + 1) (by omega) _ _) (g := w.heap.size + 1 + 1) (by omega) _ _).drew

set_option maxHeartbeats 8000000 in
set_option maxRecDepth 100000 in
theorem subdo_own (A : Option Addr) (n c : Nat) (xss : List (List Int)) (vars : Int) (w : World) (h : Grid w A n c xss) (hv : I64 vars) (hr : Hid (checkC vars xss = (0, 0))) :
    Calls Try.prog 34 #[.agg #[.int .i64 vars, .slice A n c]] w (RetCnfF vars (subbed xss) w) := by
  have hbd := h.bd
  have hlen := Lib.hid h.len
  obtain ⟨_, v0, v1, hn400, hrows⟩ := checkC_ok (vars := vars) (xss := xss) (by rw [hr.out])
  have HTD : Hid (Tidy vars (normF xss)) := norm_tidy hrows
  obtain ⟨R, hR⟩ : ∃ R, Hid (subF (muF (normF xss) + 1) (normF xss) = R) := ⟨_, rfl⟩
  have hRR : subbed xss = R := hR.out
  rw [hRR]
  have G := Lib.hid h
  clear h hrows hRR
  go_enter Try.func34, Try.ntmps34
  go_wp2_with fail
  obtain ⟨w0, hw0⟩ : ∃ w0 : World, w0 = ((w.alloc (.cells #[.int .i64 vars, .slice A n c] 24)).alloc (.cells #[.int .i64 0, .slice none 0 0] 24)).alloc (.cells #[.int .i64 0, .int .i64 0] 28) := ⟨_, rfl⟩
  obtain ⟨K1, K2, K3, B0, l0⟩ := blk3 (w := w) (wr := w0) (t := 24) (t' := 24) (t'' := 28) (cs := #[.int .i64 vars, .slice A n c]) (cs' := #[.int .i64 0, .slice none 0 0]) (cs'' := #[.int .i64 0, .int .i64 0]) (by rw [hw0]; exact Below.refl _ _)
  rw [← hw0]
  have HK1 := Lib.hid K1
  have HK2 := Lib.hid K2
  have HK3 := Lib.hid K3
  have HB0 := Lib.hid B0
  clear K1 K2 K3 hw0
  refine (norm_own _ _ _ xss vars w0 (G.out.keep B0) hv hr).mono ?_
  rintro e w1 ⟨A1, n1, c1, rfl, hO1, hb1⟩
  obtain ⟨hl1, hnc1, hc1⟩ := hO1.len'
  have hn1 : n1 ≤ 400 := by have := normF_len xss; have := hlen.out; omega
  have O1 := Lib.hid (hO1.keep (below_alloc (below_new w1 (.cells #[.int .i64 vars, .slice A1 n1 n1] 24)) (.cells #[.int .i64 0, .int .i64 0] 28)))
  have B1 := Lib.hid (below_alloc (below_alloc hb1 (.cells #[.int .i64 vars, .slice A1 n1 n1] 24)) (.cells #[.int .i64 0, .int .i64 0] 28))
  clear hO1 hb1 hl1 B0
  go_wp2_with fail
  go_loopg [6] (muF (normF xss) + 1) (fun f s wr => ∃ (A : Option Addr) (n cv c : Nat) (l : List (List Int)), s = .slice A n cv ∧ n ≤ cv ∧ cv ≤ c ∧ n ≤ 400 ∧ Hid (OwnP 26 3 wr w0.heap.size 0 A n c l) ∧ Hid (Tidy vars l) ∧ Hid (muF l < f) ∧ Hid (subF f l = R) ∧ Hid (Below w0.heap.size w0 wr))
  case atStart => exact ⟨A1, n1, n1, c1, normF xss, rfl, Nat.le_refl _, hnc1, hn1, O1, HTD, Nat.lt_succ_self _, hR, B1⟩
  case round =>
    clear O1 B1 HTD hR
    obtain ⟨L, nl, cv, cl, l, rfl, hcv1, hcv2, hn4, hO, hT, hM, hS, hbl⟩ := hrel
    cases gk with
    | zero => exfalso; have := hM.out; omega
    | succ f =>
    obtain ⟨hll, hnc, hc63⟩ := hO.out.len'
    have HLL := Lib.hid hll
    have hwz := hbl.out.size
    have HLT : Hid (∀ x ∈ l, Lits vars x) := fun x hx => (hT.out.2 x hx).2
    obtain ⟨r, hr1⟩ : ∃ r, Hid (fstF l = r) := ⟨_, rfl⟩
    have hS2 : Hid ((if 0 ≤ r then subF f (l.eraseIdx r.toNat) else if (sndF l).2 = 0 then l else subF f (normF (l.set (sndF l).1 (cutF l (sndF l).1 (sndF l).2)))) = R) := by have := hS.out; rw [subF, hr1.out] at this; exact this
    clear hll hS
    go_wp2_with fail
    refine (subsumed_any _ _ _ l vars wr (hO.out.grid.recap hcv1 hcv2) HLT.out r hr1).mono ?_
    rintro e w2 ⟨rfl, hb2⟩
    have O2 := Lib.hid (hO.out.keep hb2)
    have BL2 := Lib.hid (below_next hbl.out hb2)
    have hwz2 := BL2.out.size
    clear hb2 hO hbl
    by_cases hr0 : 0 ≤ r
    · have hfl := fstF_lt (l := l) (by rw [hr1.out]; exact hr0)
      rw [hr1.out, HLL.out] at hfl
      obtain ⟨k, rfl⟩ : ∃ k : Nat, r = k := ⟨r.toNat, by omega⟩
      simp only [Int.toNat_natCast] at hfl
      obtain ⟨g, _, _, _, _, hLe, hg0, _⟩ := O2.out.round hfl
      subst hLe
      have hS3 : Hid (subF f (l.eraseIdx k) = R) := by have := hS2.out; rw [if_pos hr0] at this; simpa [Hid] using this
      have hM3 : Hid (muF (l.eraseIdx k) < f) := by have h1 := muF_erase (l := l) (k := k) (by rw [HLL.out]; exact hfl); have h2 := hM.out; show _ < _; omega
      go_wp2_with fail
      have ek : (k : Int) + 1 = ((k + 1 : Nat) : Int) := by omega
      rw [ek]
      refine (delete_rows w0.heap.size g nl cl cv k l w2 O2.out (by omega) hcv1 hcv2 hfl).mono ?_
      rintro e w3 ⟨rfl, hO3, hg3⟩
      have O3 := Lib.hid hO3
      have BL3 : Hid (Below w0.heap.size w0 w3) := BL2.out.grown hg3 hwz2 (fun k' hk' => by cases hk'; exact hg0)
      clear hO3 hg3 ek
      go_wp2_with fail
      go_roundg f
      case rel => exact ⟨some ⟨g, 0, none⟩, nl - 1, cv, cl, l.eraseIdx k, rfl, by omega, hcv2, by omega, O3, hT.out.erase k, hM3, hS3, BL3⟩
      case measure => omega
    · have hS3 : Hid ((if (sndF l).2 = 0 then l else subF f (normF (l.set (sndF l).1 (cutF l (sndF l).1 (sndF l).2)))) = R) := by have := hS2.out; rw [if_neg hr0] at this; exact this
      obtain ⟨s1, s2, hsn⟩ : ∃ a b, Hid (sndF l = (a, b)) := ⟨_, _, rfl⟩
      have hS4 : Hid ((if s2 = 0 then l else subF f (normF (l.set s1 (cutF l s1 s2)))) = R) := by have := hS3.out; rw [hsn.out] at this; exact this
      clear hS2 hS3
      go_wp2_with fail
      refine (strengthened_any _ _ _ l vars w2 (O2.out.grid.recap hcv1 hcv2) HLT.out v0 (by omega) (by omega) s1 s2 hsn).mono ?_
      rintro e w3 ⟨rfl, hb3⟩
      have O3 := Lib.hid (O2.out.keep hb3)
      have BL3 := Lib.hid (below_next BL2.out hb3)
      have hwz3 := BL3.out.size
      clear hb3 O2 BL2
      by_cases hs2 : s2 = 0
      · subst hs2
        obtain rfl : l = R := by have := hS4.out; rw [if_pos rfl] at this; exact this
        have hbx := below_new w3 (.cells #[.int .i64 0] 3)
        obtain ⟨w4, hw4⟩ : ∃ w4 : World, w4 = w3.alloc (.cells #[.int .i64 0] 3) := ⟨_, rfl⟩
        rw [← hw4] at hbx
        have HW4 := Lib.hid hw4
        have BL4 := Lib.hid (below_next BL3.out hbx)
        have O4 := Lib.hid (O3.out.keep hbx)
        have HK1b := Lib.hid (HK1.out.keep BL4.out)
        have c0 := HK1b.out.cell 0
        have c1' := HK1b.out.cell 1
        simp at c0 c1'
        have C0 := Lib.hid c0
        clear hw4 hbx c0 c1'
        go_wp2_with fail
        rw [← HW4.out]
        clear HW4
        have c0 := C0.out
        have l2 : w.heap.size < w4.heap.size := (cell_lt c0).1
        have hS : w4.drew.cell? ⟨w.heap.size, 0, none⟩ = some (.int .i64 vars) := keepBox (below_drewN w4 1) c0
        refine wp_region_tail (fun w' => w'.cell? ⟨w.heap.size, 0, none⟩ = some (.int .i64 vars)) [] (by kernel_rfl) ?_
        refine take0 (i := 0) (oi := _) (v := ?_) rfl (by kernel_rfl) (by kernel_rfl) (by kernel_rfl) (fun _ _ _ h => h) rfl (Or.inl ⟨by rfl, ?_⟩) (fun _ => hS) ?_
        rotate_left
        · intro w0; go_simp; with_reducible rfl
        (try simp only [Act.put, List.setIfInBounds_toArray, List.set_cons_zero, List.set_cons_succ])
        refine takeS (i := 1) (oi := _) (v := ?_) rfl (by kernel_rfl) (by kernel_rfl) (by kernel_rfl) (fun _ _ _ h => h) rfl (by kernel_rfl) (by kernel_rfl) (Or.inl ⟨by rfl, ?_⟩) hS ?_
        rotate_left
        · intro w0 hSw; (try dsimp only at hSw); go_simp; with_reducible rfl
        (try simp only [Act.put, List.setIfInBounds_toArray, List.set_cons_zero, List.set_cons_succ])
        refine take0 (i := 2) (oi := _) (v := ?_) rfl (by kernel_rfl) (by kernel_rfl) (by kernel_rfl) (fun _ _ _ h => h) rfl (Or.inl ⟨by rfl, ?_⟩) (fun _ => hS) ?_
        rotate_left
        · intro w0; go_simp; with_reducible rfl
        (try simp only [Act.put, List.setIfInBounds_toArray, List.set_cons_zero, List.set_cons_succ])
        refine take0 (i := 5) (oi := _) (v := ?_) rfl (by kernel_rfl) (by kernel_rfl) (by kernel_rfl) (fun _ _ _ h => h) rfl (Or.inl ⟨by rfl, ?_⟩) (fun _ => hS) ?_
        rotate_left
        · intro w0; go_simp; with_reducible rfl
        (try simp only [Act.put, List.setIfInBounds_toArray, List.set_cons_zero, List.set_cons_succ])
        refine oneT (i := 3) (by kernel_rfl) rfl (by rfl) (fun K hK => ?_)
        go_simp
        refine (clip_any L nl cv _ hcv1 (by omega) (fun e => by have := O4.out.none_ e; omega)).mono ?_
        rintro e w10 ⟨rfl, m10, hw10⟩
        have B10 : Hid (Below w4.heap.size w4 w10) := by rw [hw10]; exact below_next (below_drewN _ 1) (below_drewN _ _)
        have O10 := Lib.hid (O4.out.keep B10.out)
        have BB := Lib.hid (below_next BL4.out B10.out)
        have HK2b := Lib.hid (HK2.out.keep BB.out)
        have HK3b := Lib.hid (HK3.out.keep BB.out)
        clear hw10
        have hS : w10.cell? ⟨w.heap.size, 0, none⟩ = some (.int .i64 vars) := keepBox B10.out c0
        refine hK _ _ (fun _ => hS) ?_
        clear hK
        (try simp only [Act.put, List.setIfInBounds_toArray, List.set_cons_zero, List.set_cons_succ])
        refine take0 (i := 4) (oi := _) (v := ?_) rfl (by kernel_rfl) (by kernel_rfl) (by kernel_rfl) (fun _ _ _ h => h) rfl (Or.inl ⟨by rfl, ?_⟩) (fun _ => hS) ?_
        rotate_left
        · intro w0; go_simp; with_reducible rfl
        (try simp only [Act.put, List.setIfInBounds_toArray, List.set_cons_zero, List.set_cons_succ])
        have k20 := HK2b.out.cell 0
        have k21 := HK2b.out.cell 1
        have k30 := HK3b.out.cell 0
        have k31 := HK3b.out.cell 1
        have g20 := HK2b.out.frozen 0
        have g21 := HK2b.out.frozen 1
        have g30 := HK3b.out.frozen 0
        have g31 := HK3b.out.frozen 1
        simp at k20 k21 k30 k31
        have lw2 := HK2b.out.lt
        have lw3 := HK3b.out.lt
        obtain ⟨w11, hw11⟩ : ∃ w11 : World, w11 = (w10.setCell ⟨w.heap.size + 1, 0, none⟩ (.int .i64 vars)).setCell ⟨w.heap.size + 1, 1, none⟩ (.slice L nl nl) := ⟨_, rfl⟩
        have J2 : Hid (Blk w11 (w.heap.size + 1) 24 #[.int .i64 vars, .slice L nl nl]) := by rw [hw11]; have := (HK2b.out.set_ 0 (.int .i64 vars)).set_ 1 (.slice L nl nl); simpa [Hid] using this
        have J3 : Hid (Blk w11 (w.heap.size + 1 + 1) 28 #[.int .i64 0, .int .i64 0]) := by rw [hw11]; exact (HK3b.out.far (p := ⟨w.heap.size + 1, 0, none⟩) (by simp) _).far (p := ⟨w.heap.size + 1, 1, none⟩) (by simp) _
        have J1 : Hid (w11.cell? ⟨w.heap.size, 0, none⟩ = some (.int .i64 vars)) := by rw [hw11]; have hk := ((HK1.out.keep BB.out).far (p := ⟨w.heap.size + 1, 0, none⟩) (by simp) (.int .i64 vars)).far (p := ⟨w.heap.size + 1, 1, none⟩) (by simp) (.slice L nl nl); show _ = _; rw [hk.cell 0]; rfl
        have O11 : Hid (OwnP 26 3 w11 w0.heap.size 0 L nl cl l) := by rw [hw11]; exact (O10.out.box (grown_setCell _ ⟨w.heap.size + 1, 0, none⟩ _) (Typed.of_blk HK2b.out) int_ne_cnf (by simp; omega)).box (grown_setCell _ ⟨w.heap.size + 1, 1, none⟩ _) (Typed.of_blk (HK2b.out.set_ 0 _)) int_ne_cnf (by simp; omega)
        have BC : Hid (Below w.heap.size w w11) := by rw [hw11]; exact below_put2 (below_next HB0.out BB.out) (g := w.heap.size + 1) (by omega) _ _
        refine oneT (i := 6) (by kernel_rfl) rfl (by rfl) (fun K hK => ?_)
        go_simp
        rw [← hw11]
        clear hw11 k20 k21 k30 k31 g20 g21 g30 g31 HK2b HK3b O10 lw2 lw3
        have hS := J1.out
        refine hK _ _ (fun _ => hS) ?_
        clear hK
        (try simp only [Act.put, List.setIfInBounds_toArray, List.set_cons_zero, List.set_cons_succ])
        have k20 := J2.out.cell 0
        have k21 := J2.out.cell 1
        have k30 := J3.out.cell 0
        have k31 := J3.out.cell 1
        have g30 := J3.out.frozen 0
        have g31 := J3.out.frozen 1
        simp at k20 k21 k30 k31
        have lw2 := J2.out.lt
        have lw3 := J3.out.lt
        have SI : Hid ((w11.setCell ⟨w.heap.size + 1 + 1, 0, none⟩ (.int .i64 0)).setCell ⟨w.heap.size + 1 + 1, 1, none⟩ (.int .i64 0) = w11) := by rw [setCell_id J3.out rfl, setCell_id J3.out rfl]; rfl
        refine oneT (i := 7) (by kernel_rfl) rfl (by rfl) (fun K hK => ?_)
        go_simp
        rw [SI.out]
        refine hK _ _ (fun _ => hS) ?_
        clear hK
        (try simp only [Act.put, List.setIfInBounds_toArray, List.set_cons_zero, List.set_cons_succ])
        refine doneT (by kernel_rfl) ?_ _
        go_wp2_with fail
        exact bodyPost_ret (v := .tuple #[.agg #[.int .i64 vars, .slice L nl nl], .agg #[.int .i64 0, .int .i64 0]]) (by simp [results, Try.results34, go_sem, k20, k21, k30, k31]) rfl ⟨L, nl, nl, rfl, O11.out.grid.clip, BC.out⟩
      · have hS5 : Hid (subF f (normF (l.set s1 (cutF l s1 s2))) = R) := by have := hS4.out; rw [if_neg hs2] at this; exact this
        have dz : (s2 == 0) = false := by simpa using hs2
        have hsl := sndF_lt (l := l) (by rw [hsn.out]; exact hs2)
        rw [hsn.out, HLL.out] at hsl
        simp only at hsl
        obtain ⟨pa, _, b, x, hbk, hx2, _, hxb, _⟩ := sndF_spec (l := l) (by rw [hsn.out]; exact hs2)
        rw [hsn.out] at hbk hx2
        simp only at hbk hx2
        rw [← hx2] at hxb
        have hM5 : Hid (muF (normF (l.set s1 (cutF l s1 s2))) < f) := by have h1 := mu_snd (l := l) (by rw [hsn.out]; exact hs2); rw [hsn.out] at h1; have h2 := hM.out; simp only at h1; show _ < _; omega
        have hT5 : Hid (Tidy vars (normF (l.set s1 (cutF l s1 s2)))) := by have h1 := hT.out.cut (by rw [hsn.out]; exact hs2); rw [hsn.out] at h1; exact h1
        have hcut := Lib.hid (cutF_eq hbk s2)
        obtain ⟨g, X, nx, cx, b', hLe, hg0, hgl, hcx, hfx, hX, hAX, hbk'⟩ := (O3.out.keep (below_new w3 (.cells #[.int .i64 s2] 3))).round hsl
        obtain rfl : b' = b := by have := hbk'.out; rw [hbk] at this; cases this; rfl
        subst hLe
        have hlb := HLT.out b' (List.mem_of_getElem? hbk)
        have hnx : nx ≤ 1000 := by have h1 := hlb.len_le v0; rw [hX.len] at h1; omega
        have hpos : 0 < nx := by rw [← hX.len]; exact List.length_pos_of_mem hxb
        have HBI : Hid (∀ z ∈ b', I64 z) := fun z hz => by have := hlb.1 z hz; unfold I64; omega
        have HX := Lib.hid hX
        have y1 : (0 : Int) ≤ (s1 : Int) := by omega
        have y2 : (s1 : Int) < (nl : Int) := by omega
        have hxl := Lib.hid hX.len
        have HBK := Lib.hid hbk
        clear hX hAX hbk' hS4 hlb hxb hx2 hbk
        go_wp2_with fail
        refine (clone_ints _ _ _ b' _ HX.out (by omega)).mono ?_
        rintro e w5 ⟨A5, n5, c5, rfl, hown5, hb5⟩
        obtain ⟨KX, B5, l5⟩ := blk1 hb5
        have hn5 : n5 = nx := by have h1 := hown5.len; rw [List.length_map, hxl.out] at h1; exact h1.symm
        subst hn5
        obtain ⟨g5, _, hA5, hg5, _⟩ := hown5.at_ hpos
        subst hA5
        have O5 := Lib.hid hown5
        have kx0 := KX.cell 0
        simp at kx0
        have KX0 := Lib.hid kx0
        have HB5 := Lib.hid hb5
        clear hown5 hb5 B5 KX kx0 hcx hfx hgl
        go_wp2_with fail
        refine (deleteFunc_ints _ g5 n5 c5 w3.heap.size b' s2 w5 O5.out HBI.out KX0.out (by simp) (by omega)).mono ?_
        rintro e w6 ⟨n6, rfl, hO6, hg6⟩
        have IT6 := Lib.hid (hO6.ints (xs := b'.filter (fun y => y != s2)) (fun z hz => HBI.out z (List.mem_filter.1 hz).1))
        have AW6 : Hid (Away 3 w6 0 (some ⟨g5, 0, none⟩) n6) := Away.own hO6
        have BW6 : Hid (Below (w3.alloc (.cells #[.int .i64 s2] 3)).heap.size (w3.alloc (.cells #[.int .i64 s2] 3)) w6) := HB5.out.grown hg6 HB5.out.size (fun k' hk' => by cases hk'; exact hg5)
        have OL6 := Lib.hid ((O3.out.keep (below_new w3 (.cells #[.int .i64 s2] 3))).keep BW6.out)
        have BL6 := Lib.hid (below_next (below_alloc BL3.out (.cells #[.int .i64 s2] 3)) BW6.out)
        obtain ⟨g7, _, _, _, _, hLe, _, hgl6, hc6, hf6, _⟩ := OL6.out.round hsl
        cases hLe
        have P6 := Lib.hid (OL6.out.put (Nat.zero_le _) row_ne hsl IT6.out AW6.out)
        have BL7 : Hid (Below w0.heap.size w0 (w6.setCell ⟨g, s1, none⟩ (.slice (some ⟨g5, 0, none⟩) n6 c5))) := BL6.out.setCell (p := ⟨g, s1, none⟩) hg0 _
        rw [← hcut.out] at P6
        have HSB : Hid (∀ xs ∈ l.set s1 (cutF l s1 s2), ∀ z ∈ xs, -1000000 ≤ z ∧ z ≤ 1000000) := fun xs hxs z hz => by
          rcases List.mem_or_eq_of_mem_set hxs with hxs | rfl
          · have := (HLT.out xs hxs).1 z hz; omega
          · rw [hcut.out] at hz
            have := (HLT.out b' (List.mem_of_getElem? HBK.out)).1 z (List.mem_filter.1 hz).1
            omega
        have HWD : Hid (∀ xs ∈ l.set s1 (cutF l s1 s2), xs.length ≤ 1000000) := fun xs hxs => by
          rcases List.mem_or_eq_of_mem_set hxs with hxs | rfl
          · have := (hT.out.2 xs hxs).1; omega
          · rw [hcut.out]
            have h1 := List.length_filter_le (fun y => y != s2) b'
            have h2 := (hT.out.2 b' (List.mem_of_getElem? HBK.out)).1
            omega
        clear hO6 hg6 HB5 O5 HX BL6 BW6 O3
        go_wp2_with fail
        refine (normal_any _ _ _ (l.set s1 (cutF l s1 s2)) _ (P6.out.grid.recap hcv1 hcv2) HSB.out HWD.out (by omega)).mono ?_
        rintro e w8 ⟨A8, n8, c8, rfl, hO8, hb8⟩
        obtain ⟨hl8, hnc8, _⟩ := hO8.len'
        have hn8 : n8 ≤ 400 := by have h1 := normF_len (l.set s1 (cutF l s1 s2)); rw [hl8, List.length_set, HLL.out] at h1; omega
        have O8 := Lib.hid (hO8.mono (base' := w0.heap.size) BL7.out.size (Nat.le_refl _))
        have BL8 := Lib.hid (below_next BL7.out hb8)
        clear hO8 hb8 hl8
        go_wp2_with fail
        go_roundg f
        case rel => exact ⟨A8, n8, c8, c8, _, rfl, hnc8, Nat.le_refl _, hn8, O8, hT5, hM5, hS5, BL8⟩
        case measure => omega
end Go.Proofs.Ytecgmgidfjbamaa
