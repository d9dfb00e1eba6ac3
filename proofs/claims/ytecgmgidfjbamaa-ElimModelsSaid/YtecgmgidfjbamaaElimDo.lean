/- Contracts of elim.stages in one, and of elim.Do. (Printed by wip/tools/elimdo.py.) -/
import Derived.Test.YtecgmgidfjbamaaStages
import Derived.Test.YtecgmgidfjbamaaModPlain
import Derived.Test.YtecgmgidfjbamaaNorm
namespace Go.Proofs.Ytecgmgidfjbamaa
open Go.RowKit
set_option linter.unusedSimpArgs false

/-- What elim.stages tells of anything. -/
def doneS (vars : Int) (xss : List (List Int)) (vs : List Int) : List (List (List Int)) × Int × Int := if (besideR vars xss vs).1 ≠ 0 then ([], besideR vars xss vs) else stagesF vars xss vs
theorem doneS_ok {vars : Int} {xss : List (List Int)} {vs : List Int} {R : List (List (List Int))} {r2 : Int} (h : doneS vars xss vs = (R, 0, r2)) :
    R = normF xss :: chain vs (normF xss) ∧ r2 = 0 ∧ (checkC vars xss).1 = 0 ∧ Lits vars vs ∧ (∀ v ∈ vs, 1 ≤ v ∧ v ≤ vars) ∧ varsR vars xss vs = (0, 0) ∧ goneF vars vs (normF xss) [normF xss] 0 = (R, vs.length) := by
  unfold doneS at h
  by_cases h1 : (besideR vars xss vs).1 ≠ 0
  · rw [if_pos h1] at h
    exfalso
    apply h1
    rw [(Prod.mk.inj h).2]
  · rw [if_neg h1, stagesF] at h
    by_cases h2 : (belowF vs 0).1 ≠ 0
    · rw [if_pos h2] at h
      exfalso
      apply h2
      rw [(Prod.mk.inj h).2]
    · rw [if_neg h2] at h
      have hv : (varsR vars xss vs).1 = 0 := by
        unfold varsR
        rw [if_neg h1]
        simpa using h2
      obtain ⟨e1, e2, _, e4, e5⟩ := varsR_ok hv
      obtain ⟨ls, g1, g2, g3⟩ := goneF_spec (vars := vars) vs (normF xss) [normF xss] 0
      split at h
      · simp at h
      · rename_i h3
        have hk : (goneF vars vs (normF xss) [normF xss] 0).2 = 0 + vs.length := by omega
        have hc := goneF_chain vs (normF xss) [normF xss] 0 hk
        obtain ⟨h4, h5⟩ := Prod.mk.inj h
        obtain ⟨-, h6⟩ := Prod.mk.inj h5
        refine ⟨by rw [← h4, hc]; rfl, h6.symm, e2, e4, e5, e1, Prod.ext h4 (by rw [hk]; simp)⟩
theorem doneS_no {vars : Int} {xss : List (List Int)} {vs : List Int} {R : List (List (List Int))} {r1 r2 : Int} (h : doneS vars xss vs = (R, r1, r2)) (h0 : r1 ≠ 0) :
    R = [] ∧ ((varsR vars xss vs = (r1, r2)) ∨ (varsR vars xss vs = (0, 0) ∧ (checkC vars xss).1 = 0 ∧ (∀ v ∈ vs, 1 ≤ v ∧ v ≤ vars) ∧ r1 = 10 ∧ ∃ k : Nat, r2 = (k : Int) ∧ k < vs.length ∧ (goneF vars vs (normF xss) [normF xss] 0).2 = k)) := by
  unfold doneS at h
  by_cases h1 : (besideR vars xss vs).1 ≠ 0
  · rw [if_pos h1] at h
    obtain ⟨h2, h3⟩ := Prod.mk.inj h
    exact ⟨h2.symm, .inl (by unfold varsR; rw [if_pos h1, h3])⟩
  · rw [if_neg h1, stagesF] at h
    by_cases h2 : (belowF vs 0).1 ≠ 0
    · rw [if_pos h2] at h
      obtain ⟨h4, h3⟩ := Prod.mk.inj h
      exact ⟨h4.symm, .inl (by unfold varsR; rw [if_neg h1, h3])⟩
    · rw [if_neg h2] at h
      have hv : (varsR vars xss vs).1 = 0 := by
        unfold varsR
        rw [if_neg h1]
        simpa using h2
      obtain ⟨e1, e2, _, e4, e5⟩ := varsR_ok hv
      split at h
      · rename_i h3
        obtain ⟨h4, h5⟩ := Prod.mk.inj h
        obtain ⟨h6, h7⟩ := Prod.mk.inj h5
        exact ⟨h4.symm, .inr ⟨e1, e2, e5, h6.symm, _, h7.symm, h3, rfl⟩⟩
      · exfalso
        obtain ⟨h4, h5⟩ := Prod.mk.inj h
        exact h0 (Prod.mk.inj h5).1.symm
theorem chain_len : ∀ (vs : List Int) (l : List (List Int)), (chain vs l).length = vs.length
  | [], _ => rfl
  | v :: t, l => by simp [chain, chain_len t]
theorem chain_last (vs : List Int) (l : List (List Int)) : (l :: chain vs l)[vs.length]? = some (lastS vs l) := by
  unfold lastS
  rw [List.getLast_eq_getElem]
  have : (l :: chain vs l).length - 1 = vs.length := by simp [chain_len]
  simp only [this]
  exact List.getElem?_eq_getElem (by simp [chain_len])
theorem chain_lits {vars : Int} : ∀ (vs : List Int) (l : List (List Int)), (∀ x ∈ l, Lits vars x) → ∀ m ∈ l :: chain vs l, ∀ x ∈ m, Lits vars x
  | [], l, h, m, hm => by simp [chain] at hm; subst hm; exact h
  | v :: t, l, h, m, hm => by
    rw [chain] at hm
    rcases List.mem_cons.1 hm with rfl | hm
    · exact h
    · exact chain_lits t (elimF l v) (elimF_lits h) m hm

theorem stages_any (A B : Option Addr) (n c m d : Nat) (xss : List (List Int)) (vs : List Int) (vars : Int) (w : World) (h : Grid w A n c xss) (hv : I64 vars) (h' : Ints w B m d vs) (R : List (List (List Int))) (r1 r2 : Int) (hR : Hid (doneS vars xss vs = (R, r1, r2))) :
    Calls Try.prog 67 #[.agg #[.int .i64 vars, .slice A n c], .slice B m d] w (fun e w' => ∃ A' n' c', e = .returned (.tuple #[.slice A' n' c', .agg #[.int .i64 r1, .int .i64 r2]]) ∧ OwnQ w' w.heap.size A' n' c' R ∧ Below w.heap.size w w') := by
  by_cases h1 : (besideR vars xss vs).1 ≠ 0
  · have h2 : ([], besideR vars xss vs) = (R, r1, r2) := by have := hR.out; rw [doneS, if_pos h1] at this; exact this
    obtain ⟨h3, h4⟩ := Prod.mk.inj h2
    refine (stages_bad A B n c m d xss vs vars w h hv h' r1 r2 h4 (by rw [h4] at h1; exact h1)).mono ?_
    rintro e w' ⟨rfl, hb⟩
    exact ⟨none, 0, 0, rfl, ⟨[], Own.nil _ _ _, by rw [← h3]; exact ⟨rfl, by simp⟩⟩, hb⟩
  · have h2 : stagesF vars xss vs = (R, r1, r2) := by have := hR.out; rw [doneS, if_neg h1] at this; exact this
    exact stages_own A B n c m d xss vs vars w h hv h' (besideR_ok (by simpa using h1)).1 R r1 r2 h2

set_option maxHeartbeats 1000000 in
theorem do_bad (A B : Option Addr) (n c m d : Nat) (xss : List (List Int)) (vs : List Int) (vars : Int) (w : World) (h : Grid w A n c xss) (hv : I64 vars) (h' : Ints w B m d vs) (R : List (List (List Int))) (r1 r2 : Int) (hR : Hid (doneS vars xss vs = (R, r1, r2))) (h0 : r1 ≠ 0) :
    Calls Try.prog 37 #[.agg #[.int .i64 vars, .slice A n c], .slice B m d] w (RetV (.tuple #[.agg #[.int .i64 0, .slice none 0 0], .agg #[.int .i64 r1, .int .i64 r2]]) w) := by
  have d1 : (r1 != 0) = true := by simpa using h0
  have hbW := below_alloc (below_alloc (below_new w (.cells #[.int .i64 vars, .slice A n c] 24)) (.cells #[.int .i64 0, .slice none 0 0] 24)) (.cells #[.int .i64 0, .int .i64 0] 28)
  have g := h.keep hbW
  have g' := h'.keep hbW
  have HBW := Lib.hid hbW
  clear hbW
  go_enter Try.func37, Try.ntmps37
  go_wp2_with fail
  refine (stages_any _ _ _ _ _ _ xss vs vars _ g hv g' R r1 r2 hR).mono ?_
  rintro e w1 ⟨A1, n1, c1, rfl, _, hb1⟩
  obtain ⟨_, k3, k4, _, l1⟩ := blk3 hb1
  have r0 := k3.cell 0
  have q1 := k3.cell 1
  have rf0 := k3.frozen 0
  have rf1 := k3.frozen 1
  have t0 := k4.cell 0
  have t1 := k4.cell 1
  have tf0 := k4.frozen 0
  have tf1 := k4.frozen 1
  simp at r0 q1 t0 t1
  have HB := Lib.hid (below_next HBW.out hb1)
  have l2 : w.heap.size + 1 < w1.heap.size := by omega
  have l3 : w.heap.size + 1 + 1 < w1.heap.size := by omega
  clear hb1 k3 k4 g g'
  go_wp2_with fail
  go_region
  go_wp2_with fail
  refine bodyPost_ret (v := .tuple #[.agg #[.int .i64 0, .slice none 0 0], .agg #[.int .i64 r1, .int .i64 r2]]) (by simp [results, Try.results37, go_sem, r0, q1, t0, t1, l2, l3]) rfl ⟨rfl, ?_⟩
  exact ((below_put2 (below_put2 HB.out (g := w.heap.size + 1) (by omega) _ _) (g := w.heap.size + 1 + 1) (by omega) _ _).alloc (by simp; omega) _).drew

/-- A formula whose clauses are l, the call's own, and no fault. -/
def RetDo (vars : Int) (l : List (List Int)) (w : World) (e : Ending) (w' : World) : Prop :=
  ∃ A n c, e = .returned (.tuple #[.agg #[.int .i64 vars, .slice A n n], .agg #[.int .i64 0, .int .i64 0]]) ∧ OwnP 26 3 w' w.heap.size 0 A n c l ∧ Below w.heap.size w w'

set_option maxHeartbeats 4000000 in
set_option maxRecDepth 100000 in
theorem do_own (A B : Option Addr) (n c m d : Nat) (xss : List (List Int)) (vs : List Int) (vars : Int) (w : World) (h : Grid w A n c xss) (hv : I64 vars) (h' : Ints w B m d vs) (R : List (List (List Int))) (hR : Hid (doneS vars xss vs = (R, 0, 0))) :
    Calls Try.prog 37 #[.agg #[.int .i64 vars, .slice A n c], .slice B m d] w (RetDo vars (lastS vs (normF xss)) w) := by
  have hbd := h.bd
  have hbd' := h'.bd
  have hlen := Lib.hid h'.len
  obtain ⟨hRR, _, _, _, _, _, _⟩ := doneS_ok hR.out
  have HRR := Lib.hid hRR
  have hLS : Hid (R[m]? = some (lastS vs (normF xss))) := by show _ = _; rw [hRR, ← hlen.out]; exact chain_last _ _
  have G := Lib.hid h
  have HV := Lib.hid h'
  clear h h' hRR
  go_enter Try.func37, Try.ntmps37
  go_wp2_with fail
  refine (stages_any _ _ _ _ _ _ xss vs vars _ (G.out.keep (below_alloc (below_alloc (below_new _ _) _) _)) hv (HV.out.keep (below_alloc (below_alloc (below_new _ _) _) _)) R 0 0 hR).mono ?_
  rintro e w1 ⟨A1, n1, c1, rfl, hQ1, hb1⟩
  have hn1 : m < n1 := by
    have h1 := hQ1.len.1
    rw [HRR.out] at h1
    simp [chain_len] at h1
    have := hlen.out
    omega
  obtain ⟨g, X, nx, cx, l', hAe, hgb, hgl, hcx, hX, hlk⟩ := hQ1.round hn1
  subst hAe
  obtain rfl : l' = lastS vs (normF xss) := by have := hlk.out; rw [hLS.out] at this; cases this; rfl
  obtain ⟨K1, K2, K3, B1, l1⟩ := blk3 hb1
  have e1 : Below w1.heap.size w1 (w1.alloc (.cells #[.int .i64 0, .int .i64 0] 28)) := below_new _ _
  obtain ⟨w2, hw2⟩ : ∃ w2 : World, w2 = w1.alloc (.cells #[.int .i64 0, .int .i64 0] 28) := ⟨_, rfl⟩
  rw [← hw2] at e1
  have HK1 := Lib.hid (K1.keep e1)
  have HK2 := Lib.hid (K2.keep e1)
  have HK3 := Lib.hid (K3.keep e1)
  have HB := Lib.hid (below_next B1 e1)
  have HX := Lib.hid (hX.keep e1)
  have HCX := Lib.hid (keepBox e1 hcx)
  have HW2 := Lib.hid hw2
  have hgw : w.heap.size + 3 ≤ g := by simpa using hgb
  have l4 : w.heap.size + 1 + 1 < w2.heap.size := by have := e1.size; omega
  have lg : g < w2.heap.size := by have := e1.size; omega
  have c0 := K1.cell 0
  have c1' := K1.cell 1
  simp at c0 c1'
  have l2 : w.heap.size < w1.heap.size := by omega
  have hQL := hQ1.len
  have y1 : (0 : Int) ≤ (m : Int) := by omega
  have y2 : (m : Int) < (n1 : Int) := by omega
  clear hb1 B1 e1 hw2 K1 K2 K3 G HV hQ1 hX hcx hgb hgl
  go_wp2_with fail
  rw [← HW2.out]
  clear HW2 c0 c1' l2 l1
  have c0 := HK1.out.cell 0
  have c1' := HK1.out.cell 1
  simp at c0 c1'
  have l2 : w.heap.size < w2.heap.size := by omega
  have cx0 := HCX.out
  have hS : w2.drew.cell? ⟨w.heap.size, 0, none⟩ = some (.int .i64 vars) ∧ w2.drew.cell? ⟨w.heap.size, 1, none⟩ = some (.slice A n c) ∧ w2.drew.cell? ⟨g, m, none⟩ = some (.slice X nx cx) := ⟨keepBox (below_drewN w2 1) c0, keepBox (below_drewN w2 1) c1', keepBox (below_drewN w2 1) cx0⟩
  refine wp_region_tail (fun w' => w'.cell? ⟨w.heap.size, 0, none⟩ = some (.int .i64 vars) ∧ w'.cell? ⟨w.heap.size, 1, none⟩ = some (.slice A n c) ∧ w'.cell? ⟨g, m, none⟩ = some (.slice X nx cx)) [] (by kernel_rfl) ?_
  refine take0 (i := 0) (oi := _) (v := ?_) rfl (by kernel_rfl) (by kernel_rfl) (by kernel_rfl) (fun _ _ _ h => h) rfl (Or.inl ⟨by rfl, ?_⟩) (fun _ => hS) ?_
  rotate_left
  · intro w0; go_simp; with_reducible rfl
  (try simp only [Act.put, List.setIfInBounds_toArray, List.set_cons_zero, List.set_cons_succ])
  refine takeS (i := 1) (oi := _) (v := ?_) rfl (by kernel_rfl) (by kernel_rfl) (by kernel_rfl) (fun _ _ _ h => h) rfl (by kernel_rfl) (by kernel_rfl) (Or.inl ⟨by rfl, ?_⟩) hS ?_
  rotate_left
  · intro w0 hSw; (try dsimp only at hSw); go_simp; with_reducible rfl
  (try simp only [Act.put, List.setIfInBounds_toArray, List.set_cons_zero, List.set_cons_succ])
  refine take0 (i := 2) (oi := _) (v := ?_) rfl (by kernel_rfl) (by kernel_rfl) (by kernel_rfl) (fun _ _ _ h => h) rfl (Or.inl ⟨by rfl, ?_⟩) (fun _ => hS) ?_
  rotate_left
  · intro w0; go_simp; with_reducible rfl
  (try simp only [Act.put, List.setIfInBounds_toArray, List.set_cons_zero, List.set_cons_succ])
  refine take0 (i := 3) (oi := _) (v := ?_) rfl (by kernel_rfl) (by kernel_rfl) (by kernel_rfl) (fun _ _ _ h => h) rfl (Or.inl ⟨by rfl, ?_⟩) (fun _ => hS) ?_
  rotate_left
  · intro w0; go_simp; with_reducible rfl
  (try simp only [Act.put, List.setIfInBounds_toArray, List.set_cons_zero, List.set_cons_succ])
  refine take0 (i := 4) (oi := _) (v := ?_) rfl (by kernel_rfl) (by kernel_rfl) (by kernel_rfl) (fun _ _ _ h => h) rfl (Or.inl ⟨by rfl, ?_⟩) (fun _ => hS) ?_
  rotate_left
  · intro w0; go_simp; with_reducible rfl
  (try simp only [Act.put, List.setIfInBounds_toArray, List.set_cons_zero, List.set_cons_succ])
  refine take0 (i := 5) (oi := _) (v := ?_) rfl (by kernel_rfl) (by kernel_rfl) (by kernel_rfl) (fun _ _ _ h => h) rfl (Or.inl ⟨by rfl, ?_⟩) (fun _ => hS) ?_
  rotate_left
  · intro w0; go_simp; with_reducible rfl
  (try simp only [Act.put, List.setIfInBounds_toArray, List.set_cons_zero, List.set_cons_succ])
  refine takeS (i := 6) (oi := _) (v := ?_) rfl (by kernel_rfl) (by kernel_rfl) (by kernel_rfl) (fun _ _ _ h => h) rfl (by kernel_rfl) (by kernel_rfl) (Or.inl ⟨by rfl, ?_⟩) hS ?_
  rotate_left
  · intro w0 hSw; (try dsimp only at hSw); go_simp; with_reducible rfl
  (try simp only [Act.put, List.setIfInBounds_toArray, List.set_cons_zero, List.set_cons_succ])
  refine take0 (i := 9) (oi := _) (v := ?_) rfl (by kernel_rfl) (by kernel_rfl) (by kernel_rfl) (fun _ _ _ h => h) rfl (Or.inl ⟨by rfl, ?_⟩) (fun _ => hS) ?_
  rotate_left
  · intro w0; go_simp; with_reducible rfl
  (try simp only [Act.put, List.setIfInBounds_toArray, List.set_cons_zero, List.set_cons_succ])
  refine oneT (i := 7) (by kernel_rfl) rfl (by rfl) (fun K hK => ?_)
  go_simp
  obtain ⟨_, hnc9, hc63⟩ := HX.out.len'
  have hA9 := HX.out.none_
  refine (clip_any X nx cx _ hnc9 hc63 hA9).mono ?_
  rintro e w10 ⟨rfl, m10, hw10⟩
  have BB : Hid (Below w2.heap.size w2 w10) := by rw [hw10]; exact below_next (below_drewN w2 1) (below_drewN _ _)
  have O10 := Lib.hid (HX.out.keep BB.out)
  have HK2b := Lib.hid (HK2.out.keep BB.out)
  have HK3b := Lib.hid (HK3.out.keep BB.out)
  clear hw10 hA9
  have hS : w10.cell? ⟨w.heap.size, 0, none⟩ = some (.int .i64 vars) ∧ w10.cell? ⟨w.heap.size, 1, none⟩ = some (.slice A n c) ∧ w10.cell? ⟨g, m, none⟩ = some (.slice X nx cx) := ⟨keepBox BB.out c0, keepBox BB.out c1', keepBox BB.out cx0⟩
  refine hK _ _ (fun _ => hS) ?_
  clear hK
  (try simp only [Act.put, List.setIfInBounds_toArray, List.set_cons_zero, List.set_cons_succ])
  refine take0 (i := 8) (oi := _) (v := ?_) rfl (by kernel_rfl) (by kernel_rfl) (by kernel_rfl) (fun _ _ _ h => h) rfl (Or.inl ⟨by rfl, ?_⟩) (fun _ => hS) ?_
  rotate_left
  · intro w0; go_simp; with_reducible rfl
  (try simp only [Act.put, List.setIfInBounds_toArray, List.set_cons_zero, List.set_cons_succ])
  have k20 := HK2b.out.cell 0
  have k21 := HK2b.out.cell 1
  have k30 := HK3b.out.cell 0
  have k31 := HK3b.out.cell 1
  have g20 := HK2b.out.frozen 0
  have g21 := HK2b.out.frozen 1
  have g30 := HK3b.out.frozen 0
  have g31 := HK3b.out.frozen 1
  simp at k20 k21 k30 k31
  have lw2 := HK2b.out.lt
  have lw3 := HK3b.out.lt
  obtain ⟨w11, hw11⟩ : ∃ w11 : World, w11 = (w10.setCell ⟨w.heap.size + 1, 0, none⟩ (.int .i64 vars)).setCell ⟨w.heap.size + 1, 1, none⟩ (.slice X nx nx) := ⟨_, rfl⟩
  have J2 : Hid (Blk w11 (w.heap.size + 1) 24 #[.int .i64 vars, .slice X nx nx]) := by rw [hw11]; have := (HK2b.out.set_ 0 (.int .i64 vars)).set_ 1 (.slice X nx nx); simpa [Hid] using this
  have J3 : Hid (Blk w11 (w.heap.size + 1 + 1) 28 #[.int .i64 0, .int .i64 0]) := by rw [hw11]; exact (HK3b.out.far (p := ⟨w.heap.size + 1, 0, none⟩) (by simp) _).far (p := ⟨w.heap.size + 1, 1, none⟩) (by simp) _
  have J1 : Hid (w11.cell? ⟨w.heap.size, 0, none⟩ = some (.int .i64 vars) ∧ w11.cell? ⟨w.heap.size, 1, none⟩ = some (.slice A n c) ∧ w11.cell? ⟨g, m, none⟩ = some (.slice X nx cx)) := by rw [hw11]; have hk := ((HK1.out.keep BB.out).far (p := ⟨w.heap.size + 1, 0, none⟩) (by simp) (.int .i64 vars)).far (p := ⟨w.heap.size + 1, 1, none⟩) (by simp) (.slice X nx nx); exact ⟨by rw [hk.cell 0]; rfl, by rw [hk.cell 1]; rfl, by rw [World.cell?_setCell_other _ _ _ _ (by simp <;> omega), World.cell?_setCell_other _ _ _ _ (by simp <;> omega)]; exact hS.2.2⟩
  have O11 : Hid (OwnP 26 3 w11 (w.heap.size + 3) 0 X nx cx (lastS vs (normF xss))) := by rw [hw11]; exact ((O10.out.mono (base' := w.heap.size + 3) (by simp) (Nat.le_refl _)).box (grown_setCell _ ⟨w.heap.size + 1, 0, none⟩ _) (Typed.of_blk HK2b.out) int_ne_cnf (by simp <;> omega)).box (grown_setCell _ ⟨w.heap.size + 1, 1, none⟩ _) (Typed.of_blk (HK2b.out.set_ 0 _)) int_ne_cnf (by simp <;> omega)
  have BC : Hid (Below w.heap.size w w11) := by rw [hw11]; exact below_put2 (below_next HB.out BB.out) (g := w.heap.size + 1) (by omega) _ _
  refine oneT (i := 10) (by kernel_rfl) rfl (by rfl) (fun K hK => ?_)
  go_simp
  rw [← hw11]
  clear hw11 k20 k21 k30 k31 g20 g21 g30 g31 HK2b HK3b O10 lw2 lw3
  have hS := J1.out
  refine hK _ _ (fun _ => hS) ?_
  clear hK
  (try simp only [Act.put, List.setIfInBounds_toArray, List.set_cons_zero, List.set_cons_succ])
  have k20 := J2.out.cell 0
  have k21 := J2.out.cell 1
  have k30 := J3.out.cell 0
  have k31 := J3.out.cell 1
  have g30 := J3.out.frozen 0
  have g31 := J3.out.frozen 1
  simp at k20 k21 k30 k31
  have lw2 := J2.out.lt
  have lw3 := J3.out.lt
  have SI : Hid ((w11.setCell ⟨w.heap.size + 1 + 1, 0, none⟩ (.int .i64 0)).setCell ⟨w.heap.size + 1 + 1, 1, none⟩ (.int .i64 0) = w11) := by rw [setCell_id J3.out rfl, setCell_id J3.out rfl]; rfl
  refine oneT (i := 11) (by kernel_rfl) rfl (by rfl) (fun K hK => ?_)
  go_simp
  rw [SI.out]
  refine hK _ _ (fun _ => hS) ?_
  clear hK
  (try simp only [Act.put, List.setIfInBounds_toArray, List.set_cons_zero, List.set_cons_succ])
  refine doneT (by kernel_rfl) ?_ _
  go_wp2_with fail
  exact bodyPost_ret (v := .tuple #[.agg #[.int .i64 vars, .slice X nx nx], .agg #[.int .i64 0, .int .i64 0]]) (by simp [results, Try.results37, go_sem, k20, k21, k30, k31]) rfl ⟨X, nx, cx, rfl, O11.out.mono (by omega) (Nat.le_refl _), BC.out⟩
end Go.Proofs.Ytecgmgidfjbamaa
