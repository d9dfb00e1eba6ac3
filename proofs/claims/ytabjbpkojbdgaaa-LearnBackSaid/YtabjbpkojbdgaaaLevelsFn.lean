/- Contract of learn.Levels. -/
import Derived.Test.YtabjbpkojbdgaaaConflict
namespace Go.Proofs.Ytabjbpkojbdgaaa
open Go.RowKit
set_option linter.unusedSimpArgs false

def RetLvs (t v : List Int) (a : Int) (w : World) (e : Ending) (w' : World) : Prop :=
  ∃ L nl cl V nv cv, e = .returned (.tuple #[.slice L nl cl, .slice V nv cv, .int .i64 a, .agg #[.int .i64 0, .int .i64 0]]) ∧ Ints w' L nl cl t ∧ Ints w' V nv cv v ∧ Below w.heap.size w w'
set_option maxHeartbeats 4000000 in
theorem levels_own (A B : Option Addr) (n c m d : Nat) (xss : List (List Int)) (l : List Int) (vars : Int) (w : World) (h : Grid w A n c xss) (hv : I64 vars) (h' : Ints w B m d l) (hr : Hid (besideR vars xss l = (0, 0))) (t y v : List Int) (z : Nat) (a : Int) (ha : Hid (startF vars xss l = (t, y, v, z, a))) :
    Calls Try.prog 25 #[.agg #[.int .i64 vars, .slice A n c], .slice B m d] w (RetLvs t v a w) := by
  obtain ⟨_, hc0, hll⟩ := besideR_ok (vars := vars) (xss := xss) (l := l) (by rw [hr.out])
  obtain ⟨_, v0, v1, hn400, hrows⟩ := checkC_ok hc0
  have v6 : vars ≤ 1000000 := by omega
  have HC : Hid (∀ x ∈ xss, Lits vars x) := fun x hx => (hrows x hx).2
  have HLL := Lib.hid hll
  have HOK := Lib.hid (startF_ok v0 (by omega) HC.out hll ha.out)
  have G := Lib.hid h
  have I := Lib.hid h'
  clear hrows hc0 hll hn400 h h'
  go_enter Try.func25, Try.ntmps25
  go_wp2_with fail
  refine (both_any _ _ _ _ _ _ _ _ _ _ (G.out.keep (below_alloc (below_new _ _) _)) hv (I.out.keep (below_alloc (below_new _ _) _)) _ _ hr).mono ?_
  rintro e w1 ⟨rfl, hb1⟩
  obtain ⟨K_c0, K_r0, B_w1, l_w1⟩ := two_blks hb1
  replace G := Lib.hid (G.out.keep B_w1)
  replace I := Lib.hid (I.out.keep B_w1)
  have HB := Lib.hid B_w1
  have K_c := Lib.hid K_c0
  have K_r := Lib.hid K_r0
  clear hb1 B_w1 K_c0 K_r0
  have cK_c_0 := K_c.out.cell 0
  have cK_c_1 := K_c.out.cell 1
  simp at cK_c_0 cK_c_1
  have zK_c := K_c.out.lt
  have cK_r_0 := K_r.out.cell 0
  have cK_r_1 := K_r.out.cell 1
  simp at cK_r_0 cK_r_1
  have zK_r := K_r.out.lt
  go_wp2_with fail
  refine (start_any _ _ _ _ _ _ xss l vars _ (G.out.keep (below_new _ _)) (I.out.keep (below_new _ _)) v0 v6 HC.out HLL.out t y v z a ha).mono ?_
  rintro e w2 ⟨W, gr, g, gm, L, cl, Y, cy, D, V, nv, cv, rfl, hbW, hst⟩
  have HST := Lib.hid hst
  have hb2 := below_next hbW hst.tr.bl
  have hWz := hbW.size
  simp at hWz
  clear hst hbW
  obtain ⟨K_f0, B_w2, l_w2⟩ := blk1 hb2
  replace G := Lib.hid (G.out.keep B_w2)
  replace I := Lib.hid (I.out.keep B_w2)
  replace K_c := Lib.hid (K_c.out.keep B_w2)
  replace K_r := Lib.hid (K_r.out.keep B_w2)
  replace HB := Lib.hid (below_next HB.out B_w2)
  have K_f := Lib.hid K_f0
  clear hb2 B_w2 K_f0
  clear cK_c_0 cK_c_1 zK_c cK_r_0 cK_r_1 zK_r
  have cK_c_0 := K_c.out.cell 0
  have cK_c_1 := K_c.out.cell 1
  simp at cK_c_0 cK_c_1
  have zK_c := K_c.out.lt
  have cK_r_0 := K_r.out.cell 0
  have cK_r_1 := K_r.out.cell 1
  simp at cK_r_0 cK_r_1
  have zK_r := K_r.out.lt
  have cK_f_0 := K_f.out.cell 0
  have cK_f_1 := K_f.out.cell 1
  simp at cK_f_0 cK_f_1
  have zK_f := K_f.out.lt
  have fK_r_0 := K_r.out.frozen 0
  have fK_r_1 := K_r.out.frozen 1
  have s0 := HST.out.rb.cell 0
  have s1 := HST.out.rb.cell 1
  have s3 := HST.out.rb.cell 3
  have s5 := HST.out.tr.tb.cell 1
  simp at s0 s1 s3 s5
  have iL := HST.out.tr.lits.ints HOK.out.1
  have iV := HST.out.vo.ints HOK.out.2.1
  have nL := HST.out.tr.lits.geb (k := w.heap.size + 1) (by omega)
  have nV := HST.out.vo.geb (k := w.heap.size + 1) (by omega)
  have HII := Lib.hid (((iL.kept (grown_setCell _ ⟨w.heap.size + 1, 0, none⟩ (.int .i64 0)) nL).kept (grown_setCell _ ⟨w.heap.size + 1, 1, none⟩ (.int .i64 0)) nL).keep (below_drewN _ 1))
  have HIV := Lib.hid (((iV.kept (grown_setCell _ ⟨w.heap.size + 1, 0, none⟩ (.int .i64 0)) nV).kept (grown_setCell _ ⟨w.heap.size + 1, 1, none⟩ (.int .i64 0)) nV).keep (below_drewN _ 1))
  obtain ⟨q0, q1⟩ := K_r.out.put2 (.int .i64 0) (.int .i64 0)
  have Q0 := Lib.hid q0
  have Q1 := Lib.hid q1
  have BF := Lib.hid (below_next (below_put2 HB.out (g := w.heap.size + 1) (by omega) (.int .i64 0) (.int .i64 0)) (below_drewN _ 1))
  clear q0 q1 iL iV nL nV
  go_wp2_with fail
  have hS : w2.drew.cell? ⟨gr, 0, none⟩ = some (.pointer (some ⟨g, 0, none⟩)) ∧ w2.drew.cell? ⟨g, 1, none⟩ = some (.slice L t.length cl) ∧ w2.drew.cell? ⟨gr, 1, none⟩ = some (.slice V nv cv) ∧ w2.drew.cell? ⟨gr, 3, none⟩ = some (.int .i64 a) := ⟨keepBox (below_drewN w2 1) s0, keepBox (below_drewN w2 1) s5, keepBox (below_drewN w2 1) s1, keepBox (below_drewN w2 1) s3⟩
  refine wp_region_tail (fun w' => w'.cell? ⟨gr, 0, none⟩ = some (.pointer (some ⟨g, 0, none⟩)) ∧ w'.cell? ⟨g, 1, none⟩ = some (.slice L t.length cl) ∧ w'.cell? ⟨gr, 1, none⟩ = some (.slice V nv cv) ∧ w'.cell? ⟨gr, 3, none⟩ = some (.int .i64 a)) [19] (by kernel_rfl) ?_
  refine take0 (i := 0) (oi := _) (v := ?_) rfl (by kernel_rfl) (by kernel_rfl) (by kernel_rfl) (fun _ _ _ h => h) rfl (Or.inl ⟨by rfl, ?_⟩) (fun _ => hS) ?_
  rotate_left
  · intro w0; go_simp; with_reducible rfl
  (try simp only [Act.put, List.setIfInBounds_toArray, List.set_cons_zero, List.set_cons_succ])
  refine take0 (i := 1) (oi := _) (v := ?_) rfl (by kernel_rfl) (by kernel_rfl) (by kernel_rfl) (fun _ _ _ h => h) rfl (Or.inl ⟨by rfl, ?_⟩) (fun _ => hS) ?_
  rotate_left
  · intro w0; go_simp; with_reducible rfl
  (try simp only [Act.put, List.setIfInBounds_toArray, List.set_cons_zero, List.set_cons_succ])
  refine take0 (i := 2) (oi := _) (v := ?_) rfl (by kernel_rfl) (by kernel_rfl) (by kernel_rfl) (fun _ _ _ h => h) rfl (Or.inl ⟨by rfl, ?_⟩) (fun _ => hS) ?_
  rotate_left
  · intro w0; go_simp; with_reducible rfl
  (try simp only [Act.put, List.setIfInBounds_toArray, List.set_cons_zero, List.set_cons_succ])
  refine takeS (i := 3) (oi := _) (v := ?_) rfl (by kernel_rfl) (by kernel_rfl) (by kernel_rfl) (fun _ _ _ h => h) rfl (by kernel_rfl) (by kernel_rfl) (Or.inl ⟨by rfl, ?_⟩) hS ?_
  rotate_left
  · intro w0 hSw; (try dsimp only at hSw); go_simp; with_reducible rfl
  (try simp only [Act.put, List.setIfInBounds_toArray, List.set_cons_zero, List.set_cons_succ])
  refine take0 (i := 4) (oi := _) (v := ?_) rfl (by kernel_rfl) (by kernel_rfl) (by kernel_rfl) (fun _ _ _ h => h) rfl (Or.inl ⟨by rfl, ?_⟩) (fun _ => hS) ?_
  rotate_left
  · intro w0; go_simp; with_reducible rfl
  (try simp only [Act.put, List.setIfInBounds_toArray, List.set_cons_zero, List.set_cons_succ])
  refine take0 (i := 5) (oi := _) (v := ?_) rfl (by kernel_rfl) (by kernel_rfl) (by kernel_rfl) (fun _ _ _ h => h) rfl (Or.inl ⟨by rfl, ?_⟩) (fun _ => hS) ?_
  rotate_left
  · intro w0; go_simp; with_reducible rfl
  (try simp only [Act.put, List.setIfInBounds_toArray, List.set_cons_zero, List.set_cons_succ])
  refine takeS (i := 6) (oi := _) (v := ?_) rfl (by kernel_rfl) (by kernel_rfl) (by kernel_rfl) (fun _ _ _ h => h) rfl (by kernel_rfl) (by kernel_rfl) (Or.inl ⟨by rfl, ?_⟩) hS ?_
  rotate_left
  · intro w0 hSw; (try dsimp only at hSw); go_simp; with_reducible rfl
  (try simp only [Act.put, List.setIfInBounds_toArray, List.set_cons_zero, List.set_cons_succ])
  refine take0 (i := 7) (oi := _) (v := ?_) rfl (by kernel_rfl) (by kernel_rfl) (by kernel_rfl) (fun _ _ _ h => h) rfl (Or.inl ⟨by rfl, ?_⟩) (fun _ => hS) ?_
  rotate_left
  · intro w0; go_simp; with_reducible rfl
  (try simp only [Act.put, List.setIfInBounds_toArray, List.set_cons_zero, List.set_cons_succ])
  refine take0 (i := 8) (oi := _) (v := ?_) rfl (by kernel_rfl) (by kernel_rfl) (by kernel_rfl) (fun _ _ _ h => h) rfl (Or.inl ⟨by rfl, ?_⟩) (fun _ => hS) ?_
  rotate_left
  · intro w0; go_simp; with_reducible rfl
  (try simp only [Act.put, List.setIfInBounds_toArray, List.set_cons_zero, List.set_cons_succ])
  refine take0 (i := 9) (oi := _) (v := ?_) rfl (by kernel_rfl) (by kernel_rfl) (by kernel_rfl) (fun _ _ _ h => h) rfl (Or.inl ⟨by rfl, ?_⟩) (fun _ => hS) ?_
  rotate_left
  · intro w0; go_simp; with_reducible rfl
  (try simp only [Act.put, List.setIfInBounds_toArray, List.set_cons_zero, List.set_cons_succ])
  refine takeS (i := 10) (oi := _) (v := ?_) rfl (by kernel_rfl) (by kernel_rfl) (by kernel_rfl) (fun _ _ _ h => h) rfl (by kernel_rfl) (by kernel_rfl) (Or.inl ⟨by rfl, ?_⟩) hS ?_
  rotate_left
  · intro w0 hSw; (try dsimp only at hSw); go_simp; with_reducible rfl
  (try simp only [Act.put, List.setIfInBounds_toArray, List.set_cons_zero, List.set_cons_succ])
  refine take0 (i := 11) (oi := _) (v := ?_) rfl (by kernel_rfl) (by kernel_rfl) (by kernel_rfl) (fun _ _ _ h => h) rfl (Or.inl ⟨by rfl, ?_⟩) (fun _ => hS) ?_
  rotate_left
  · intro w0; go_simp; with_reducible rfl
  (try simp only [Act.put, List.setIfInBounds_toArray, List.set_cons_zero, List.set_cons_succ])
  refine take0 (i := 12) (oi := _) (v := ?_) rfl (by kernel_rfl) (by kernel_rfl) (by kernel_rfl) (fun _ _ _ h => h) rfl (Or.inl ⟨by rfl, ?_⟩) (fun _ => hS) ?_
  rotate_left
  · intro w0; go_simp; with_reducible rfl
  (try simp only [Act.put, List.setIfInBounds_toArray, List.set_cons_zero, List.set_cons_succ])
  refine take0 (i := 13) (oi := _) (v := ?_) rfl (by kernel_rfl) (by kernel_rfl) (by kernel_rfl) (fun _ _ _ h => h) rfl (Or.inl ⟨by rfl, ?_⟩) (fun _ => hS) ?_
  rotate_left
  · intro w0; go_simp; with_reducible rfl
  (try simp only [Act.put, List.setIfInBounds_toArray, List.set_cons_zero, List.set_cons_succ])
  refine takeS (i := 14) (oi := _) (v := ?_) rfl (by kernel_rfl) (by kernel_rfl) (by kernel_rfl) (fun _ _ _ h => h) rfl (by kernel_rfl) (by kernel_rfl) (Or.inl ⟨by rfl, ?_⟩) hS ?_
  rotate_left
  · intro w0 hSw; (try dsimp only at hSw); go_simp; with_reducible rfl
  (try simp only [Act.put, List.setIfInBounds_toArray, List.set_cons_zero, List.set_cons_succ])
  refine take0 (i := 15) (oi := _) (v := ?_) rfl (by kernel_rfl) (by kernel_rfl) (by kernel_rfl) (fun _ _ _ h => h) rfl (Or.inl ⟨by rfl, ?_⟩) (fun _ => hS) ?_
  rotate_left
  · intro w0; go_simp; with_reducible rfl
  (try simp only [Act.put, List.setIfInBounds_toArray, List.set_cons_zero, List.set_cons_succ])
  refine take0 (i := 16) (oi := _) (v := ?_) rfl (by kernel_rfl) (by kernel_rfl) (by kernel_rfl) (fun _ _ _ h => h) rfl (Or.inl ⟨by rfl, ?_⟩) (fun _ => hS) ?_
  rotate_left
  · intro w0; go_simp; with_reducible rfl
  (try simp only [Act.put, List.setIfInBounds_toArray, List.set_cons_zero, List.set_cons_succ])
  refine take0 (i := 17) (oi := _) (v := ?_) rfl (by kernel_rfl) (by kernel_rfl) (by kernel_rfl) (fun _ _ _ h => h) rfl (Or.inl ⟨by rfl, ?_⟩) (fun _ => hS) ?_
  rotate_left
  · intro w0; go_simp; with_reducible rfl
  (try simp only [Act.put, List.setIfInBounds_toArray, List.set_cons_zero, List.set_cons_succ])
  refine take0 (i := 18) (oi := _) (v := ?_) rfl (by kernel_rfl) (by kernel_rfl) (by kernel_rfl) (fun _ _ _ h => h) rfl (Or.inl ⟨by rfl, ?_⟩) (fun _ => hS) ?_
  rotate_left
  · intro w0; go_simp; with_reducible rfl
  (try simp only [Act.put, List.setIfInBounds_toArray, List.set_cons_zero, List.set_cons_succ])
  refine oneT (i := 19) (by kernel_rfl) rfl (by rfl) (fun K hK => ?_)
  go_simp
  refine hK _ _ (noT_no (by kernel_rfl)) ?_
  clear hK
  (try simp only [Act.put, List.setIfInBounds_toArray, List.set_cons_zero, List.set_cons_succ])
  refine doneT (by kernel_rfl) ?_ _
  go_wp2_with fail
  exact bodyPost_ret (v := .tuple #[.slice L t.length cl, .slice V nv cv, .int .i64 a, .agg #[.int .i64 0, .int .i64 0]]) (by simp [results, Try.results25, go_sem, Q0.out, Q1.out]) rfl ⟨L, _, cl, V, nv, cv, rfl, HII.out, HIV.out, BF.out⟩

end Go.Proofs.Ytabjbpkojbdgaaa
