/- Contract of cnf.Norm. (Printed by wip/tools/norm.py.) -/
import Derived.Test.YtlfgcblijfflfaaGreatNormal
import Derived.Test.YtlfgcblijfflfaaGreatCnfB
import Derived.Test.YtlfgcblijfflfaaGreatTail
namespace Go.Proofs.YtlfgcblijfflfaaGreat
open Go.RowKit
set_option linter.unusedSimpArgs false

/-- A formula in order, its clauses the call's own (c: what they have room for), and no fault. -/
def RetNormF (vars : Int) (xss : List (List Int)) (w : World) (e : Ending) (w' : World) : Prop :=
  ∃ A n c, e = .returned (.tuple #[.agg #[.int .i64 vars, .slice A n n], .agg #[.int .i64 0, .int .i64 0]]) ∧ OwnP 22 3 w' w.heap.size 0 A n c (normF xss) ∧ Below w.heap.size w w'
theorem OwnP.box {e t t' : TypeId} {w w' : World} {base n c g : Nat} {A : Option Addr} {xss : List (List Int)} (h : OwnP e t w base 0 A n c xss) (hg : w.grownBy w' (some g)) (hT : Typed t' w g) (hne : t ≠ t') (hb : g < base) : OwnP e t w' base 0 A n c xss := by
  obtain ⟨vs, h1, h2⟩ := h
  exact ⟨vs, h1.kept hg (h1.geb hb), h2.kept hg (fun g' e' => by cases e'; exact ⟨Nat.zero_le _, hT⟩) hne⟩
theorem int_ne_cnf : (3 : TypeId) ≠ 25 := by decide
theorem int_ne_flt : (3 : TypeId) ≠ 28 := by decide

set_option maxHeartbeats 1000000 in
theorem norm_wrong (A : Option Addr) (n c : Nat) (xss : List (List Int)) (vars : Int) (w : World) (h : Grid w A n c xss) (hv : I64 vars) (r1 r2 : Int) (hr : Hid (checkC vars xss = (r1, r2))) (h0 : r1 ≠ 0) :
    Calls Tryz.prog 21 #[.agg #[.int .i64 vars, .slice A n c]] w (RetV (.tuple #[.agg #[.int .i64 0, .slice none 0 0], .agg #[.int .i64 r1, .int .i64 r2]]) w) := by
  have d1 : (r1 != 0) = true := by simpa using h0
  have hbW := below_alloc (below_alloc (below_new w (.cells #[.int .i64 vars, .slice A n c] 25)) (.cells #[.int .i64 0, .slice none 0 0] 25)) (.cells #[.int .i64 0, .int .i64 0] 28)
  have g := h.keep hbW
  have HBW := Lib.hid hbW
  clear hbW
  go_enter Tryz.func21, Tryz.ntmps21
  go_wp2_with fail
  refine (check_own _ _ _ _ _ _ g hv _ _ hr).mono ?_
  rintro e w1 ⟨rfl, hb1⟩
  obtain ⟨_, k3, k4, _, l1⟩ := blk3 hb1
  have r0 := k3.cell 0
  have q1 := k3.cell 1
  have rf0 := k3.frozen 0
  have rf1 := k3.frozen 1
  have t0 := k4.cell 0
  have t1 := k4.cell 1
  have tf0 := k4.frozen 0
  have tf1 := k4.frozen 1
  simp at r0 q1 t0 t1
  have HB := Lib.hid (below_next HBW.out hb1)
  have l2 : w.heap.size + 1 < w1.heap.size := by omega
  have l3 : w.heap.size + 1 + 1 < w1.heap.size := by omega
  clear hb1 k3 k4 g
  go_wp2_with fail
  go_region
  go_wp2_with fail
  refine bodyPost_ret (v := .tuple #[.agg #[.int .i64 0, .slice none 0 0], .agg #[.int .i64 r1, .int .i64 r2]]) (by simp [results, Tryz.results21, go_sem, r0, q1, t0, t1, l2, l3]) rfl ⟨rfl, ?_⟩
  exact ((below_put2 (below_put2 HB.out (g := w.heap.size + 1) (by omega) _ _) (g := w.heap.size + 1 + 1) (by omega) _ _).alloc (by simp; omega) _).drew

set_option maxHeartbeats 4000000 in
set_option maxRecDepth 100000 in
theorem norm_own (A : Option Addr) (n c : Nat) (xss : List (List Int)) (vars : Int) (w : World) (h : Grid w A n c xss) (hv : I64 vars) (hr : Hid (checkC vars xss = (0, 0))) :
    Calls Tryz.prog 21 #[.agg #[.int .i64 vars, .slice A n c]] w (RetNormF vars xss w) := by
  have hbd := h.bd
  have hlen := Lib.hid h.len
  obtain ⟨_, v0, v1, hn400, hrows⟩ := checkC_ok (vars := vars) (xss := xss) (by rw [hr.out])
  have HSB : Hid (∀ xs ∈ xss, ∀ x ∈ xs, -1000000 ≤ x ∧ x ≤ 1000000) := fun xs hx x hx' => by have := (hrows xs hx).2.1 x hx'; omega
  have HWD : Hid (∀ xs ∈ xss, xs.length ≤ 1000000) := fun xs hx => by have := (hrows xs hx).1; omega
  have hn4 : n ≤ 1000000 := by have := hlen.out; omega
  have G := Lib.hid h
  clear h hrows hn400
  go_enter Tryz.func21, Tryz.ntmps21
  go_wp2_with fail
  refine (check_own _ _ _ _ _ _ (G.out.keep (below_alloc (below_alloc (below_new _ _) _) _)) hv _ _ hr).mono ?_
  rintro e w1 ⟨rfl, hb1⟩
  obtain ⟨K1, K2, K3, B1, l1⟩ := blk3 hb1
  have e1 : Below w1.heap.size w1 (w1.alloc (.cells #[.int .i64 0, .int .i64 0] 28)) := below_new _ _
  obtain ⟨w2, hw2⟩ : ∃ w2 : World, w2 = w1.alloc (.cells #[.int .i64 0, .int .i64 0] 28) := ⟨_, rfl⟩
  rw [← hw2] at e1
  have HK1 := Lib.hid (K1.keep e1)
  have HK2 := Lib.hid (K2.keep e1)
  have HK3 := Lib.hid (K3.keep e1)
  have HB := Lib.hid (below_next B1 e1)
  have G2 := Lib.hid (G.out.keep HB.out)
  have c0 := K1.cell 0
  have c1' := K1.cell 1
  simp at c0 c1'
  have HW2 := Lib.hid hw2
  have l2 : w.heap.size < w1.heap.size := by omega
  have l4 : w.heap.size + 1 + 1 < w2.heap.size := by have := e1.size; omega
  clear hb1 B1 e1 hw2 K1 K2 K3 G
  go_wp2_with fail
  rw [← HW2.out]
  clear HW2 c0 c1' l2 l1
  have c0 := HK1.out.cell 0
  have c1' := HK1.out.cell 1
  simp at c0 c1'
  have l2 : w.heap.size < w2.heap.size := by omega
  have hS : w2.drew.cell? ⟨w.heap.size, 0, none⟩ = some (.int .i64 vars) ∧ w2.drew.cell? ⟨w.heap.size, 1, none⟩ = some (.slice A n c) := ⟨keepBox (below_drewN w2 1) c0, keepBox (below_drewN w2 1) c1'⟩
  refine wp_region_tail (fun w' => w'.cell? ⟨w.heap.size, 0, none⟩ = some (.int .i64 vars) ∧ w'.cell? ⟨w.heap.size, 1, none⟩ = some (.slice A n c)) [] (by kernel_rfl) ?_
  refine take0 (i := 0) (oi := _) (v := ?_) rfl (by kernel_rfl) (by kernel_rfl) (by kernel_rfl) (fun _ _ _ h => h) rfl (Or.inl ⟨by rfl, ?_⟩) (fun _ => hS) ?_
  rotate_left
  · intro w0; go_simp; with_reducible rfl
  (try simp only [Act.put, List.setIfInBounds_toArray, List.set_cons_zero, List.set_cons_succ])
  refine takeS (i := 1) (oi := _) (v := ?_) rfl (by kernel_rfl) (by kernel_rfl) (by kernel_rfl) (fun _ _ _ h => h) rfl (by kernel_rfl) (by kernel_rfl) (Or.inl ⟨by rfl, ?_⟩) hS ?_
  rotate_left
  · intro w0 hSw; (try dsimp only at hSw); go_simp; with_reducible rfl
  (try simp only [Act.put, List.setIfInBounds_toArray, List.set_cons_zero, List.set_cons_succ])
  refine take0 (i := 2) (oi := _) (v := ?_) rfl (by kernel_rfl) (by kernel_rfl) (by kernel_rfl) (fun _ _ _ h => h) rfl (Or.inl ⟨by rfl, ?_⟩) (fun _ => hS) ?_
  rotate_left
  · intro w0; go_simp; with_reducible rfl
  (try simp only [Act.put, List.setIfInBounds_toArray, List.set_cons_zero, List.set_cons_succ])
  refine takeS (i := 3) (oi := _) (v := ?_) rfl (by kernel_rfl) (by kernel_rfl) (by kernel_rfl) (fun _ _ _ h => h) rfl (by kernel_rfl) (by kernel_rfl) (Or.inl ⟨by rfl, ?_⟩) hS ?_
  rotate_left
  · intro w0 hSw; (try dsimp only at hSw); go_simp; with_reducible rfl
  (try simp only [Act.put, List.setIfInBounds_toArray, List.set_cons_zero, List.set_cons_succ])
  refine take0 (i := 7) (oi := _) (v := ?_) rfl (by kernel_rfl) (by kernel_rfl) (by kernel_rfl) (fun _ _ _ h => h) rfl (Or.inl ⟨by rfl, ?_⟩) (fun _ => hS) ?_
  rotate_left
  · intro w0; go_simp; with_reducible rfl
  (try simp only [Act.put, List.setIfInBounds_toArray, List.set_cons_zero, List.set_cons_succ])
  refine oneT (i := 4) (by kernel_rfl) rfl (by rfl) (fun K hK => ?_)
  go_simp
  refine (normal_any _ _ _ xss _ (G2.out.drewN 1) HSB.out HWD.out hn4).mono ?_
  rintro e w9 ⟨A9, n9, c9, rfl, hown9, hb9⟩
  have B9 := Lib.hid (below_next (below_drewN w2 1) hb9)
  have O9 : Hid (OwnP 22 3 w9 w2.heap.size 0 A9 n9 c9 (normF xss)) := hown9
  obtain ⟨_, hnc9, hc63⟩ := hown9.len'
  have hA9 := hown9.none_
  clear hb9 hown9
  have hS : w9.cell? ⟨w.heap.size, 0, none⟩ = some (.int .i64 vars) ∧ w9.cell? ⟨w.heap.size, 1, none⟩ = some (.slice A n c) := ⟨keepBox B9.out c0, keepBox B9.out c1'⟩
  refine hK _ _ (fun _ => hS) ?_
  clear hK
  (try simp only [Act.put, List.setIfInBounds_toArray, List.set_cons_zero, List.set_cons_succ])
  refine oneT (i := 5) (by kernel_rfl) rfl (by rfl) (fun K hK => ?_)
  go_simp
  refine (clip_any A9 n9 c9 w9 hnc9 hc63 hA9).mono ?_
  rintro e w10 ⟨rfl, m10, hw10⟩
  have B10 : Hid (Below w9.heap.size w9 w10) := by rw [hw10]; exact below_drewN _ _
  have O10 := Lib.hid (O9.out.keep B10.out)
  have BB := Lib.hid (below_next B9.out B10.out)
  have HK2b := Lib.hid (HK2.out.keep BB.out)
  have HK3b := Lib.hid (HK3.out.keep BB.out)
  clear hw10
  have hS : w10.cell? ⟨w.heap.size, 0, none⟩ = some (.int .i64 vars) ∧ w10.cell? ⟨w.heap.size, 1, none⟩ = some (.slice A n c) := ⟨keepBox BB.out c0, keepBox BB.out c1'⟩
  refine hK _ _ (fun _ => hS) ?_
  clear hK
  (try simp only [Act.put, List.setIfInBounds_toArray, List.set_cons_zero, List.set_cons_succ])
  refine take0 (i := 6) (oi := _) (v := ?_) rfl (by kernel_rfl) (by kernel_rfl) (by kernel_rfl) (fun _ _ _ h => h) rfl (Or.inl ⟨by rfl, ?_⟩) (fun _ => hS) ?_
  rotate_left
  · intro w0; go_simp; with_reducible rfl
  (try simp only [Act.put, List.setIfInBounds_toArray, List.set_cons_zero, List.set_cons_succ])
  have k20 := HK2b.out.cell 0
  have k21 := HK2b.out.cell 1
  have k30 := HK3b.out.cell 0
  have k31 := HK3b.out.cell 1
  have g20 := HK2b.out.frozen 0
  have g21 := HK2b.out.frozen 1
  have g30 := HK3b.out.frozen 0
  have g31 := HK3b.out.frozen 1
  simp at k20 k21 k30 k31
  have lw2 := HK2b.out.lt
  have lw3 := HK3b.out.lt
  obtain ⟨w11, hw11⟩ : ∃ w11 : World, w11 = (w10.setCell ⟨w.heap.size + 1, 0, none⟩ (.int .i64 vars)).setCell ⟨w.heap.size + 1, 1, none⟩ (.slice A9 n9 n9) := ⟨_, rfl⟩
  have J2 : Hid (Blk w11 (w.heap.size + 1) 25 #[.int .i64 vars, .slice A9 n9 n9]) := by rw [hw11]; have := (HK2b.out.set_ 0 (.int .i64 vars)).set_ 1 (.slice A9 n9 n9); simpa [Hid] using this
  have J3 : Hid (Blk w11 (w.heap.size + 1 + 1) 28 #[.int .i64 0, .int .i64 0]) := by rw [hw11]; exact (HK3b.out.far (p := ⟨w.heap.size + 1, 0, none⟩) (by simp) _).far (p := ⟨w.heap.size + 1, 1, none⟩) (by simp) _
  have J1 : Hid (w11.cell? ⟨w.heap.size, 0, none⟩ = some (.int .i64 vars) ∧ w11.cell? ⟨w.heap.size, 1, none⟩ = some (.slice A n c)) := by rw [hw11]; have hk := ((HK1.out.keep BB.out).far (p := ⟨w.heap.size + 1, 0, none⟩) (by simp) (.int .i64 vars)).far (p := ⟨w.heap.size + 1, 1, none⟩) (by simp) (.slice A9 n9 n9); exact ⟨by rw [hk.cell 0]; rfl, by rw [hk.cell 1]; rfl⟩
  have O11 : Hid (OwnP 22 3 w11 w2.heap.size 0 A9 n9 c9 (normF xss)) := by rw [hw11]; exact (O10.out.box (grown_setCell _ ⟨w.heap.size + 1, 0, none⟩ _) (Typed.of_blk HK2b.out) int_ne_cnf (by simp; omega)).box (grown_setCell _ ⟨w.heap.size + 1, 1, none⟩ _) (Typed.of_blk (HK2b.out.set_ 0 _)) int_ne_cnf (by simp; omega)
  have BC : Hid (Below w.heap.size w w11) := by rw [hw11]; exact below_put2 (below_next HB.out BB.out) (g := w.heap.size + 1) (by omega) _ _
  refine oneT (i := 8) (by kernel_rfl) rfl (by rfl) (fun K hK => ?_)
  go_simp
  rw [← hw11]
  clear hw11 k20 k21 k30 k31 g20 g21 g30 g31 HK2b HK3b O10 lw2 lw3
  have hS := J1.out
  refine hK _ _ (fun _ => hS) ?_
  clear hK
  (try simp only [Act.put, List.setIfInBounds_toArray, List.set_cons_zero, List.set_cons_succ])
  have k20 := J2.out.cell 0
  have k21 := J2.out.cell 1
  have k30 := J3.out.cell 0
  have k31 := J3.out.cell 1
  have g30 := J3.out.frozen 0
  have g31 := J3.out.frozen 1
  simp at k20 k21 k30 k31
  have lw2 := J2.out.lt
  have lw3 := J3.out.lt
  have SI : Hid ((w11.setCell ⟨w.heap.size + 1 + 1, 0, none⟩ (.int .i64 0)).setCell ⟨w.heap.size + 1 + 1, 1, none⟩ (.int .i64 0) = w11) := by rw [setCell_id J3.out rfl, setCell_id J3.out rfl]; rfl
  refine oneT (i := 9) (by kernel_rfl) rfl (by rfl) (fun K hK => ?_)
  go_simp
  rw [SI.out]
  refine hK _ _ (fun _ => hS) ?_
  clear hK
  (try simp only [Act.put, List.setIfInBounds_toArray, List.set_cons_zero, List.set_cons_succ])
  refine doneT (by kernel_rfl) ?_ _
  go_wp2_with fail
  exact bodyPost_ret (v := .tuple #[.agg #[.int .i64 vars, .slice A9 n9 n9], .agg #[.int .i64 0, .int .i64 0]]) (by simp [results, Tryz.results21, go_sem, k20, k21, k30, k31]) rfl ⟨A9, n9, c9, rfl, O11.out.mono HB.out.size (Nat.le_refl _), BC.out⟩
end Go.Proofs.YtlfgcblijfflfaaGreat
