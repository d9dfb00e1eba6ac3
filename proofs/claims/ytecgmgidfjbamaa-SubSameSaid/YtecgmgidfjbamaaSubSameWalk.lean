/- The walk of SubSame: it returns true. (Printed by wip/tools/subsame.py.) -/
import Derived.Test.YtecgmgidfjbamaaSubDoesWalk
import Derived.Test.YtecgmgidfjbamaaSat
namespace Go.Proofs.Ytecgmgidfjbamaa
open Go.RowKit
set_option linter.unusedSimpArgs false

theorem run_fault0 (w : World) (x0 x1 : Value) : (Instr.field 28 (.agg #[x0, x1]) 0).run Try.prog w = .ok x0 w := by kernel_rfl
set_option maxHeartbeats 400000 in
theorem fine_any (A : Option Addr) (n c : Nat) (xss : List (List Int)) (vars : Int) (w : World) (h : Grid w A n c xss) (hv : I64 vars) (hr : Hid (checkC vars xss = (0, 0))) :
    Calls Try.prog 36 #[.agg #[.int .i64 vars, .slice A n c]] w (RetV (.bool true) w) := by
  have hk := h.keep (below_new w (.cells #[.int .i64 vars, .slice A n c] 24))
  have hf0 := run_fault0
  go_enter Try.func36, Try.ntmps36
  go_wp2_with fail
  refine (check_ref _ _ _ xss vars _ hk hv _ _ hr).mono ?_
  rintro e w1 ⟨rfl, hb1⟩
  have HB := Lib.hid (below_box hb1).1
  clear hb1 hk
  go_wp2_with fail
  go_ret
  exact ⟨rfl, HB.out⟩

theorem sub_check {vars : Int} {xss : List (List Int)} (h : (checkC vars xss).1 = 0) : checkC vars (subbed xss) = (0, 0) := by
  obtain ⟨_, h0, h1, h2, h3⟩ := checkC_ok h
  exact checkC_of h0 h1 (Nat.le_trans (subbed_len xss) h2) (subF_tidy _ _ (norm_tidy h3)).2

set_option maxHeartbeats 8000000 in
set_option maxRecDepth 100000 in
theorem subSame_walk {vars : Int} {A B : Option Addr} {n c m d : Nat} {xss : List (List Int)} {a : List Bool} (w : World) (hv : I64 vars) (h : Grid w A n c xss) (ha : Bools w B m d a) :
    Calls Try.prog 10 #[.agg #[.int .i64 vars, .slice A n c], .slice B m d] w fun e w' => e = .returned (.bool true) ∧ Below w.heap.size w w' := by
  have hbd := h.bd
  have hbda := ha.bd
  have hlen := Lib.hid h.len
  have G := Lib.hid h
  have HA := Lib.hid ha
  have hn63 : n ≤ 9223372036854775807 := by omega
  obtain ⟨hvy, hhv⟩ : ∃ r, Hid ((decide (40 < vars) || decide (60 < (n : Int))) = r) := ⟨_, rfl⟩
  obtain ⟨r1, r2, hr⟩ : ∃ r1 r2, Hid (checkC vars xss = (r1, r2)) := ⟨_, _, rfl⟩
  clear h ha
  cases hvy
  rotate_left
  · go_enter Try.func10, Try.ntmps10
    go_wp2_with fail
    refine (heavy_any _ _ _ _ _ hn63 _ hhv).mono ?_
    rintro e w1 ⟨rfl, hb1⟩
    obtain ⟨K_c0, B_w1, l_w1⟩ := blk1 hb1
    replace G := Lib.hid (G.out.keep B_w1)
    replace HA := Lib.hid (HA.out.keep B_w1)
    have HB := Lib.hid B_w1
    have K_c := Lib.hid K_c0
    clear hb1 B_w1 K_c0
    have cK_c_0 := K_c.out.cell 0
    have cK_c_1 := K_c.out.cell 1
    simp at cK_c_0 cK_c_1
    have zK_c := K_c.out.lt
    go_wp2_with fail
    go_ret
    exact ⟨rfl, HB.out⟩
  by_cases hr1 : r1 = 0
  · subst hr1
    obtain ⟨hr0, v0, v1, hn400, hrows0⟩ := checkC_ok (vars := vars) (xss := xss) (by rw [hr.out])
    obtain rfl : r2 = 0 := by rw [hr.out] at hr0; simpa using hr0
    have hrows := Lib.hid hrows0
    have hcs : Hid (checkC vars (subbed xss) = (0, 0)) := sub_check (by rw [hr.out])
    have hag : Hid (subbed (subbed xss) = subbed xss) := subbed_again hrows0
    have hall : Hid (allB (subbed xss) a = allB xss a) := subbed_all hrows0
    have hrowsD : Hid (∀ x ∈ subbed xss, x.length ≤ 24 ∧ Lits vars x) := (subF_tidy _ _ (norm_tidy hrows0)).2
    clear hr0 hrows0 hn400
    go_enter Try.func10, Try.ntmps10
    go_wp2_with fail
    refine (heavy_any _ _ _ _ _ hn63 _ hhv).mono ?_
    rintro e w1 ⟨rfl, hb1⟩
    obtain ⟨K_c0, B_w1, l_w1⟩ := blk1 hb1
    replace G := Lib.hid (G.out.keep B_w1)
    replace HA := Lib.hid (HA.out.keep B_w1)
    have HB := Lib.hid B_w1
    have K_c := Lib.hid K_c0
    clear hb1 B_w1 K_c0
    have cK_c_0 := K_c.out.cell 0
    have cK_c_1 := K_c.out.cell 1
    simp at cK_c_0 cK_c_1
    have zK_c := K_c.out.lt
    go_wp2_with fail
    refine (subdo_own _ _ _ xss vars _ G.out hv hr).mono ?_
    rintro e w2 ⟨A2, n2, c2, rfl, hG2, hb2⟩
    have B_w2 := hb2
    replace G := Lib.hid (G.out.keep B_w2)
    replace HA := Lib.hid (HA.out.keep B_w2)
    replace K_c := Lib.hid (K_c.out.keep B_w2)
    replace HB := Lib.hid (below_next HB.out B_w2)
    clear hb2 B_w2
    clear cK_c_0 cK_c_1 zK_c
    have cK_c_0 := K_c.out.cell 0
    have cK_c_1 := K_c.out.cell 1
    simp at cK_c_0 cK_c_1
    have zK_c := K_c.out.lt
    have GD := Lib.hid hG2
    have hlD := Lib.hid hG2.len
    have hbD := hG2.bd
    clear hG2
    go_wp2_with fail
    refine (pair_any _).mono ?_
    rintro e w3 ⟨A5, n5, c5, rfl, hG5, hb3⟩
    obtain ⟨K_d0, K_f0, B_w3, l_w3⟩ := two_blks hb3
    replace G := Lib.hid (G.out.keep B_w3)
    replace HA := Lib.hid (HA.out.keep B_w3)
    replace GD := Lib.hid (GD.out.keep B_w3)
    replace K_c := Lib.hid (K_c.out.keep B_w3)
    replace HB := Lib.hid (below_next HB.out B_w3)
    have K_d := Lib.hid K_d0
    have K_f := Lib.hid K_f0
    clear hb3 B_w3 K_d0 K_f0
    clear cK_c_0 cK_c_1 zK_c
    have cK_c_0 := K_c.out.cell 0
    have cK_c_1 := K_c.out.cell 1
    simp at cK_c_0 cK_c_1
    have zK_c := K_c.out.lt
    have cK_d_0 := K_d.out.cell 0
    have cK_d_1 := K_d.out.cell 1
    simp at cK_d_0 cK_d_1
    have zK_d := K_d.out.lt
    have cK_f_0 := K_f.out.cell 0
    have cK_f_1 := K_f.out.cell 1
    simp at cK_f_0 cK_f_1
    have zK_f := K_f.out.lt
    have GP := Lib.hid hG5
    clear hG5
    go_wp2_with fail
    refine (subdo_own _ _ _ [[1, 2], [-1]] 2 _ GP.out ⟨by omega, by omega⟩ (by show _ = _; decide)).mono ?_
    rintro e w4 ⟨A6, n6, c6, rfl, hG6, hb4⟩
    have B_w4 := hb4
    replace G := Lib.hid (G.out.keep B_w4)
    replace HA := Lib.hid (HA.out.keep B_w4)
    replace GD := Lib.hid (GD.out.keep B_w4)
    replace GP := Lib.hid (GP.out.keep B_w4)
    replace K_c := Lib.hid (K_c.out.keep B_w4)
    replace K_d := Lib.hid (K_d.out.keep B_w4)
    replace K_f := Lib.hid (K_f.out.keep B_w4)
    replace HB := Lib.hid (below_next HB.out B_w4)
    clear hb4 B_w4
    clear cK_c_0 cK_c_1 zK_c cK_d_0 cK_d_1 zK_d cK_f_0 cK_f_1 zK_f
    have cK_c_0 := K_c.out.cell 0
    have cK_c_1 := K_c.out.cell 1
    simp at cK_c_0 cK_c_1
    have zK_c := K_c.out.lt
    have cK_d_0 := K_d.out.cell 0
    have cK_d_1 := K_d.out.cell 1
    simp at cK_d_0 cK_d_1
    have zK_d := K_d.out.lt
    have cK_f_0 := K_f.out.cell 0
    have cK_f_1 := K_f.out.cell 1
    simp at cK_f_0 cK_f_1
    have zK_f := K_f.out.lt
    rw [sub_pair] at hG6
    have GO := Lib.hid hG6
    clear hG6
    go_wp2_with fail
    have hI1 := (ints_made ((w4.alloc (.cells #[.int .i64 2, .slice A6 n6 c6] 24)).alloc (.cells #[.int .i64 0, .int .i64 0] 28)) 3 [-1] (b := w4.heap.size + 1 + 1) (by simp) (by simp [I64]) (by decide)).keep (below_new _ (.cells #[.int .i64 2] 3))
    have hI2 := ints_made (((w4.alloc (.cells #[.int .i64 2, .slice A6 n6 c6] 24)).alloc (.cells #[.int .i64 0, .int .i64 0] 28)).alloc (.cells #[.int .i64 (-1)] 3)) 3 [2] (b := w4.heap.size + 1 + 1 + 1) (by simp) (by simp [I64]) (by decide)
    have hB5 := below_alloc (below_alloc (below_alloc (below_alloc (below_new w4 (.cells #[.int .i64 2, .slice A6 n6 c6] 24)) (.cells #[.int .i64 0, .int .i64 0] 28)) (.cells #[.int .i64 (-1)] 3)) (.cells #[.int .i64 2] 3)) (.cells #[.slice (some ⟨w4.heap.size + 1 + 1, 0, none⟩) 1 1, .slice (some ⟨w4.heap.size + 1 + 1 + 1, 0, none⟩) 1 1] 26)
    refine (rows_any _ _ _ _ _ _ [[-1], [2]] [[-1], [2]] _ (GO.out.keep hB5) (grid2 26 (by simp) hI1 hI2) true (by show _ = _; rfl)).mono ?_
    rintro e w6 hq6
    obtain ⟨rfl, hb6⟩ := hq6.v
    have hb7 := below_next hB5 hb6
    clear hq6 hI1 hI2 hB5 hb6
    have B_w6 := hb7
    replace G := Lib.hid (G.out.keep B_w6)
    replace HA := Lib.hid (HA.out.keep B_w6)
    replace GD := Lib.hid (GD.out.keep B_w6)
    replace GP := Lib.hid (GP.out.keep B_w6)
    replace GO := Lib.hid (GO.out.keep B_w6)
    replace K_c := Lib.hid (K_c.out.keep B_w6)
    replace K_d := Lib.hid (K_d.out.keep B_w6)
    replace K_f := Lib.hid (K_f.out.keep B_w6)
    replace HB := Lib.hid (below_next HB.out B_w6)
    clear hb7 B_w6
    clear cK_c_0 cK_c_1 zK_c cK_d_0 cK_d_1 zK_d cK_f_0 cK_f_1 zK_f
    have cK_c_0 := K_c.out.cell 0
    have cK_c_1 := K_c.out.cell 1
    simp at cK_c_0 cK_c_1
    have zK_c := K_c.out.lt
    have cK_d_0 := K_d.out.cell 0
    have cK_d_1 := K_d.out.cell 1
    simp at cK_d_0 cK_d_1
    have zK_d := K_d.out.lt
    have cK_f_0 := K_f.out.cell 0
    have cK_f_1 := K_f.out.cell 1
    simp at cK_f_0 cK_f_1
    have zK_f := K_f.out.lt
    go_wp2_with fail
    refine (subdo_own _ _ _ (subbed xss) vars _ GD.out hv hcs).mono ?_
    rintro e w7 ⟨A7, n7, c7, rfl, hG7, hb7⟩
    have B_w7 := hb7
    replace G := Lib.hid (G.out.keep B_w7)
    replace HA := Lib.hid (HA.out.keep B_w7)
    replace GD := Lib.hid (GD.out.keep B_w7)
    replace GP := Lib.hid (GP.out.keep B_w7)
    replace GO := Lib.hid (GO.out.keep B_w7)
    replace K_c := Lib.hid (K_c.out.keep B_w7)
    replace K_d := Lib.hid (K_d.out.keep B_w7)
    replace K_f := Lib.hid (K_f.out.keep B_w7)
    replace HB := Lib.hid (below_next HB.out B_w7)
    clear hb7 B_w7
    clear cK_c_0 cK_c_1 zK_c cK_d_0 cK_d_1 zK_d cK_f_0 cK_f_1 zK_f
    have cK_c_0 := K_c.out.cell 0
    have cK_c_1 := K_c.out.cell 1
    simp at cK_c_0 cK_c_1
    have zK_c := K_c.out.lt
    have cK_d_0 := K_d.out.cell 0
    have cK_d_1 := K_d.out.cell 1
    simp at cK_d_0 cK_d_1
    have zK_d := K_d.out.lt
    have cK_f_0 := K_f.out.cell 0
    have cK_f_1 := K_f.out.cell 1
    simp at cK_f_0 cK_f_1
    have zK_f := K_f.out.lt
    rw [hag.out] at hG7
    have GA := Lib.hid hG7
    clear hG7
    go_wp2_with fail
    refine (fine_any _ _ _ (subbed xss) vars _ (GD.out.keep (below_alloc (below_new _ _) _)) hv hcs).mono ?_
    rintro e w8 ⟨rfl, hb8⟩
    obtain ⟨K_a0, K_b0, B_w8, l_w8⟩ := two_blks hb8
    replace G := Lib.hid (G.out.keep B_w8)
    replace HA := Lib.hid (HA.out.keep B_w8)
    replace GD := Lib.hid (GD.out.keep B_w8)
    replace GP := Lib.hid (GP.out.keep B_w8)
    replace GO := Lib.hid (GO.out.keep B_w8)
    replace GA := Lib.hid (GA.out.keep B_w8)
    replace K_c := Lib.hid (K_c.out.keep B_w8)
    replace K_d := Lib.hid (K_d.out.keep B_w8)
    replace K_f := Lib.hid (K_f.out.keep B_w8)
    replace HB := Lib.hid (below_next HB.out B_w8)
    have K_a := Lib.hid K_a0
    have K_b := Lib.hid K_b0
    clear hb8 B_w8 K_a0 K_b0
    clear cK_c_0 cK_c_1 zK_c cK_d_0 cK_d_1 zK_d cK_f_0 cK_f_1 zK_f
    have cK_c_0 := K_c.out.cell 0
    have cK_c_1 := K_c.out.cell 1
    simp at cK_c_0 cK_c_1
    have zK_c := K_c.out.lt
    have cK_d_0 := K_d.out.cell 0
    have cK_d_1 := K_d.out.cell 1
    simp at cK_d_0 cK_d_1
    have zK_d := K_d.out.lt
    have cK_f_0 := K_f.out.cell 0
    have cK_f_1 := K_f.out.cell 1
    simp at cK_f_0 cK_f_1
    have zK_f := K_f.out.lt
    have cK_a_0 := K_a.out.cell 0
    have cK_a_1 := K_a.out.cell 1
    simp at cK_a_0 cK_a_1
    have zK_a := K_a.out.lt
    have cK_b_0 := K_b.out.cell 0
    have cK_b_1 := K_b.out.cell 1
    simp at cK_b_0 cK_b_1
    have zK_b := K_b.out.lt
    have dv : (vars != vars) = false := by simp
    have dv2 : (vars == vars) = true := by simp
    go_wp2_with fail
    refine (cnfs_any _ _ _ _ _ _ (subbed xss) (subbed xss) vars vars _ GA.out GD.out true (by show _ = _; rw [dv2]; simp [rowsB])).mono ?_
    rintro e w9 ⟨rfl, hb9⟩
    have B_w9 := hb9
    replace G := Lib.hid (G.out.keep B_w9)
    replace HA := Lib.hid (HA.out.keep B_w9)
    replace GD := Lib.hid (GD.out.keep B_w9)
    replace GP := Lib.hid (GP.out.keep B_w9)
    replace GO := Lib.hid (GO.out.keep B_w9)
    replace GA := Lib.hid (GA.out.keep B_w9)
    replace K_c := Lib.hid (K_c.out.keep B_w9)
    replace K_d := Lib.hid (K_d.out.keep B_w9)
    replace K_f := Lib.hid (K_f.out.keep B_w9)
    replace K_a := Lib.hid (K_a.out.keep B_w9)
    replace K_b := Lib.hid (K_b.out.keep B_w9)
    replace HB := Lib.hid (below_next HB.out B_w9)
    clear hb9 B_w9
    clear cK_c_0 cK_c_1 zK_c cK_d_0 cK_d_1 zK_d cK_f_0 cK_f_1 zK_f cK_a_0 cK_a_1 zK_a cK_b_0 cK_b_1 zK_b
    have cK_c_0 := K_c.out.cell 0
    have cK_c_1 := K_c.out.cell 1
    simp at cK_c_0 cK_c_1
    have zK_c := K_c.out.lt
    have cK_d_0 := K_d.out.cell 0
    have cK_d_1 := K_d.out.cell 1
    simp at cK_d_0 cK_d_1
    have zK_d := K_d.out.lt
    have cK_f_0 := K_f.out.cell 0
    have cK_f_1 := K_f.out.cell 1
    simp at cK_f_0 cK_f_1
    have zK_f := K_f.out.lt
    have cK_a_0 := K_a.out.cell 0
    have cK_a_1 := K_a.out.cell 1
    simp at cK_a_0 cK_a_1
    have zK_a := K_a.out.lt
    have cK_b_0 := K_b.out.cell 0
    have cK_b_1 := K_b.out.cell 1
    simp at cK_b_0 cK_b_1
    have zK_b := K_b.out.lt
    have hle : n2 ≤ n := by have h1 := subbed_len xss; have h2 := hlD.out; have h3 := hlen.out; omega
    have hnl : ¬ n < n2 := by omega
    by_cases hq : (m : Int) = vars
    · have dq : ((m : Int) != vars) = false := by simpa using hq
      have HIX : Hid (∀ xs ∈ xss, InLits m xs) := fun xs hx => (hrows.out xs hx).2.inLits hq
      have HID : Hid (∀ xs ∈ subbed xss, InLits m xs) := fun xs hx => (hrowsD.out xs hx).2.inLits hq
      obtain ⟨t, ht⟩ : ∃ t, Hid (allB xss a = t) := ⟨_, rfl⟩
      have ht2 : Hid (allB (subbed xss) a = t) := by rw [hall.out]; exact ht
      have dt : (t == t) = true := by cases t <;> rfl
      go_wp2_with fail
      go_quiet ((first | (go_at_call 22; with_reducible exact RetQ.quiet (all_ref _ _ _ _ _ _ xss a _ (G.out.drewN _) (HA.out.drewN _) HIX.out _ ht)) | (go_at_call 22; with_reducible exact RetQ.quiet (all_ref _ _ _ _ _ _ (subbed xss) a _ (GD.out.drewN _) (HA.out.drewN _) HID.out _ ht2))))
      go_wp2_with fail
      go_ret
      exact ⟨by (first | rfl | (simp; done)), below_next HB.out (below_drewN _ _)⟩
    · have dq : ((m : Int) != vars) = true := by simpa using hq
      go_wp2_with fail
      go_quiet (fail)
      go_wp2_with fail
      go_ret
      exact ⟨rfl, below_next HB.out (below_drewN _ _)⟩
  · have d1 : (r1 != 0) = true := by simpa using hr1
    have d1' : (r1 == 0) = false := by simpa using hr1
    go_enter Try.func10, Try.ntmps10
    go_wp2_with fail
    refine (heavy_any _ _ _ _ _ hn63 _ hhv).mono ?_
    rintro e w1 ⟨rfl, hb1⟩
    obtain ⟨K_c0, B_w1, l_w1⟩ := blk1 hb1
    replace G := Lib.hid (G.out.keep B_w1)
    replace HA := Lib.hid (HA.out.keep B_w1)
    have HB := Lib.hid B_w1
    have K_c := Lib.hid K_c0
    clear hb1 B_w1 K_c0
    have cK_c_0 := K_c.out.cell 0
    have cK_c_1 := K_c.out.cell 1
    simp at cK_c_0 cK_c_1
    have zK_c := K_c.out.lt
    go_wp2_with fail
    refine (subdo_wrong _ _ _ xss vars _ G.out hv r1 r2 hr hr1).mono ?_
    rintro e w2 ⟨rfl, hb2⟩
    have B_w2 := hb2
    replace G := Lib.hid (G.out.keep B_w2)
    replace HA := Lib.hid (HA.out.keep B_w2)
    replace K_c := Lib.hid (K_c.out.keep B_w2)
    replace HB := Lib.hid (below_next HB.out B_w2)
    clear hb2 B_w2
    clear cK_c_0 cK_c_1 zK_c
    have cK_c_0 := K_c.out.cell 0
    have cK_c_1 := K_c.out.cell 1
    simp at cK_c_0 cK_c_1
    have zK_c := K_c.out.lt
    go_wp2_with fail
    refine (pair_any _).mono ?_
    rintro e w3 ⟨A5, n5, c5, rfl, hG5, hb3⟩
    obtain ⟨K_d0, K_f0, B_w3, l_w3⟩ := two_blks hb3
    replace G := Lib.hid (G.out.keep B_w3)
    replace HA := Lib.hid (HA.out.keep B_w3)
    replace K_c := Lib.hid (K_c.out.keep B_w3)
    replace HB := Lib.hid (below_next HB.out B_w3)
    have K_d := Lib.hid K_d0
    have K_f := Lib.hid K_f0
    clear hb3 B_w3 K_d0 K_f0
    clear cK_c_0 cK_c_1 zK_c
    have cK_c_0 := K_c.out.cell 0
    have cK_c_1 := K_c.out.cell 1
    simp at cK_c_0 cK_c_1
    have zK_c := K_c.out.lt
    have cK_d_0 := K_d.out.cell 0
    have cK_d_1 := K_d.out.cell 1
    simp at cK_d_0 cK_d_1
    have zK_d := K_d.out.lt
    have cK_f_0 := K_f.out.cell 0
    have cK_f_1 := K_f.out.cell 1
    simp at cK_f_0 cK_f_1
    have zK_f := K_f.out.lt
    have GP := Lib.hid hG5
    clear hG5
    go_wp2_with fail
    refine (subdo_own _ _ _ [[1, 2], [-1]] 2 _ GP.out ⟨by omega, by omega⟩ (by show _ = _; decide)).mono ?_
    rintro e w4 ⟨A6, n6, c6, rfl, hG6, hb4⟩
    have B_w4 := hb4
    replace G := Lib.hid (G.out.keep B_w4)
    replace HA := Lib.hid (HA.out.keep B_w4)
    replace GP := Lib.hid (GP.out.keep B_w4)
    replace K_c := Lib.hid (K_c.out.keep B_w4)
    replace K_d := Lib.hid (K_d.out.keep B_w4)
    replace K_f := Lib.hid (K_f.out.keep B_w4)
    replace HB := Lib.hid (below_next HB.out B_w4)
    clear hb4 B_w4
    clear cK_c_0 cK_c_1 zK_c cK_d_0 cK_d_1 zK_d cK_f_0 cK_f_1 zK_f
    have cK_c_0 := K_c.out.cell 0
    have cK_c_1 := K_c.out.cell 1
    simp at cK_c_0 cK_c_1
    have zK_c := K_c.out.lt
    have cK_d_0 := K_d.out.cell 0
    have cK_d_1 := K_d.out.cell 1
    simp at cK_d_0 cK_d_1
    have zK_d := K_d.out.lt
    have cK_f_0 := K_f.out.cell 0
    have cK_f_1 := K_f.out.cell 1
    simp at cK_f_0 cK_f_1
    have zK_f := K_f.out.lt
    rw [sub_pair] at hG6
    have GO := Lib.hid hG6
    clear hG6
    go_wp2_with fail
    have hI1 := (ints_made ((w4.alloc (.cells #[.int .i64 2, .slice A6 n6 c6] 24)).alloc (.cells #[.int .i64 0, .int .i64 0] 28)) 3 [-1] (b := w4.heap.size + 1 + 1) (by simp) (by simp [I64]) (by decide)).keep (below_new _ (.cells #[.int .i64 2] 3))
    have hI2 := ints_made (((w4.alloc (.cells #[.int .i64 2, .slice A6 n6 c6] 24)).alloc (.cells #[.int .i64 0, .int .i64 0] 28)).alloc (.cells #[.int .i64 (-1)] 3)) 3 [2] (b := w4.heap.size + 1 + 1 + 1) (by simp) (by simp [I64]) (by decide)
    have hB5 := below_alloc (below_alloc (below_alloc (below_alloc (below_new w4 (.cells #[.int .i64 2, .slice A6 n6 c6] 24)) (.cells #[.int .i64 0, .int .i64 0] 28)) (.cells #[.int .i64 (-1)] 3)) (.cells #[.int .i64 2] 3)) (.cells #[.slice (some ⟨w4.heap.size + 1 + 1, 0, none⟩) 1 1, .slice (some ⟨w4.heap.size + 1 + 1 + 1, 0, none⟩) 1 1] 26)
    refine (rows_any _ _ _ _ _ _ [[-1], [2]] [[-1], [2]] _ (GO.out.keep hB5) (grid2 26 (by simp) hI1 hI2) true (by show _ = _; rfl)).mono ?_
    rintro e w6 hq6
    obtain ⟨rfl, hb6⟩ := hq6.v
    have hb7 := below_next hB5 hb6
    clear hq6 hI1 hI2 hB5 hb6
    have B_w6 := hb7
    replace G := Lib.hid (G.out.keep B_w6)
    replace HA := Lib.hid (HA.out.keep B_w6)
    replace GP := Lib.hid (GP.out.keep B_w6)
    replace GO := Lib.hid (GO.out.keep B_w6)
    replace K_c := Lib.hid (K_c.out.keep B_w6)
    replace K_d := Lib.hid (K_d.out.keep B_w6)
    replace K_f := Lib.hid (K_f.out.keep B_w6)
    replace HB := Lib.hid (below_next HB.out B_w6)
    clear hb7 B_w6
    clear cK_c_0 cK_c_1 zK_c cK_d_0 cK_d_1 zK_d cK_f_0 cK_f_1 zK_f
    have cK_c_0 := K_c.out.cell 0
    have cK_c_1 := K_c.out.cell 1
    simp at cK_c_0 cK_c_1
    have zK_c := K_c.out.lt
    have cK_d_0 := K_d.out.cell 0
    have cK_d_1 := K_d.out.cell 1
    simp at cK_d_0 cK_d_1
    have zK_d := K_d.out.lt
    have cK_f_0 := K_f.out.cell 0
    have cK_f_1 := K_f.out.cell 1
    simp at cK_f_0 cK_f_1
    have zK_f := K_f.out.lt
    go_wp2_with fail
    refine (none_any _ _ _ _ _ (by omega) true (by rfl)).mono ?_
    rintro e w7 ⟨rfl, hb7⟩
    have HB7 := Lib.hid (below_next HB.out hb7)
    clear hb7
    go_wp2_with fail
    go_ret
    exact ⟨rfl, HB7.out⟩
end Go.Proofs.Ytecgmgidfjbamaa
