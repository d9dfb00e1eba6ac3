/- The walk of ElimModels: it returns true. (Printed by wip/tools/elimmodels.py.) -/
import Derived.Test.YtecgmgidfjbamaaElimMend
import Derived.Test.YtecgmgidfjbamaaHeavy
import Derived.Test.YtecgmgidfjbamaaRows2
import Derived.Test.YtecgmgidfjbamaaHolds
namespace Go.Proofs.Ytecgmgidfjbamaa
open Go.RowKit
set_option linter.unusedSimpArgs false

theorem mend_pair : mendS 2 [[1, 2], [-1]] [1] [true, true] = ([false, true], 0, 0) := by decide
theorem run_fault0 (w : World) (x0 x1 : Value) : (Instr.field 28 (.agg #[x0, x1]) 0).run Try.prog w = .ok x0 w := by kernel_rfl
set_option maxHeartbeats 400000 in
theorem fine_any (A : Option Addr) (n c : Nat) (xss : List (List Int)) (vars : Int) (w : World) (h : Grid w A n c xss) (hv : I64 vars) (hr : Hid (checkC vars xss = (0, 0))) :
    Calls Try.prog 36 #[.agg #[.int .i64 vars, .slice A n c]] w (RetV (.bool true) w) := by
  have hk := h.keep (below_new w (.cells #[.int .i64 vars, .slice A n c] 24))
  have hf0 := run_fault0
  go_enter Try.func36, Try.ntmps36
  go_wp2_with fail
  refine (check_ref _ _ _ xss vars _ hk hv _ _ hr).mono ?_
  rintro e w1 ⟨rfl, hb1⟩
  have HB := Lib.hid (below_box hb1).1
  clear hb1 hk
  go_wp2_with fail
  go_ret
  exact ⟨rfl, HB.out⟩
theorem gone_check {vars : Int} : ∀ (vs : List Int) (l : List (List Int)) (all : List (List (List Int))) (i : Nat), (checkC vars l).1 = 0 → (goneF vars vs l all i).2 = i + vs.length → (checkC vars (lastS vs l)).1 = 0
  | [], l, _, _, h, _ => by simpa [lastS, chain] using h
  | v :: t, l, all, i, _, hg => by
    rw [lastS_cons]
    rw [goneF] at hg
    split at hg
    · simp at hg
    · rename_i h1
      exact gone_check t (elimF l v) _ (i + 1) (by simpa using h1) (by rw [hg]; simp; omega)
theorem some_norm (xss : List (List Int)) (vs : List Int) (a : List Bool) : ∀ k w, someF (normF xss) vs a k w = someF xss vs a k w
  | 0, _ => rfl
  | k + 1, w => by rw [someF, someF, allB_norm, some_norm xss vs a k (w + 1)]
theorem bit_and {k i : Nat} (hk : k < 64) : (bits BinOp.and IntKind.i64 ((k : Int) / 2 ^ i) 1 == 1) = (k / 2 ^ i % 2 == 1) := by
  have h0 : ∀ x : Nat, x < 64 → (bits BinOp.and IntKind.i64 (x : Int) 1 == 1) = (x % 2 == 1) := by decide
  have h1 : ((k : Int) / 2 ^ i) = ((k / 2 ^ i : Nat) : Int) := by simp
  rw [h1]
  exact h0 _ (Nat.lt_of_le_of_lt (Nat.div_le_self _ _) hk)
theorem pow_le64 {m : Nat} (h : m ≤ 6) : 2 ^ m ≤ 64 := Nat.le_trans (Nat.pow_le_pow_right (by omega) h) (by decide)

set_option maxHeartbeats 8000000 in
set_option maxRecDepth 100000 in
theorem elimModels_walk {vars : Int} {A B C : Option Addr} {n c m d p f : Nat} {xss : List (List Int)} {vs : List Int} {a : List Bool} (w : World) (hv : I64 vars) (h : Grid w A n c xss) (h' : Ints w B m d vs) (ha : Bools w C p f a) :
    Calls Try.prog 13 #[.agg #[.int .i64 vars, .slice A n c], .slice B m d, .slice C p f] w fun e w' => e = .returned (.bool true) ∧ Below w.heap.size w w' := by
  have hbd := h.bd
  have hbd' := h'.bd
  have hbda := ha.bd
  have hlen := Lib.hid h.len
  have hlv := Lib.hid h'.len
  have hla := Lib.hid ha.len
  have G := Lib.hid h
  have HV := Lib.hid h'
  have HA := Lib.hid ha
  have hn63 : n ≤ 9223372036854775807 := by omega
  obtain ⟨hvy, hhv⟩ : ∃ r, Hid ((decide (40 < vars) || decide (60 < (n : Int))) = r) := ⟨_, rfl⟩
  obtain ⟨R, r1, r2, hR⟩ : ∃ R r1 r2, Hid (doneS vars xss vs = (R, r1, r2)) := ⟨_, _, _, rfl⟩
  clear h h' ha
  cases hvy
  rotate_left
  · go_enter Try.func13, Try.ntmps13
    go_wp2_with fail
    refine (heavy_any _ _ _ _ _ hn63 _ hhv).mono ?_
    rintro e w1 ⟨rfl, hb1⟩
    obtain ⟨K_c0, B_w1, l_w1⟩ := blk1 hb1
    replace G := Lib.hid (G.out.keep B_w1)
    replace HV := Lib.hid (HV.out.keep B_w1)
    replace HA := Lib.hid (HA.out.keep B_w1)
    have HB := Lib.hid B_w1
    have K_c := Lib.hid K_c0
    clear hb1 B_w1 K_c0
    have cK_c_0 := K_c.out.cell 0
    have cK_c_1 := K_c.out.cell 1
    simp at cK_c_0 cK_c_1
    have zK_c := K_c.out.lt
    go_wp2_with fail
    go_ret
    exact ⟨rfl, HB.out⟩
  by_cases hm6 : 6 < m
  · have dm : decide ((6 : Int) < (m : Int)) = true := by simp; omega
    go_enter Try.func13, Try.ntmps13
    go_wp2_with fail
    refine (heavy_any _ _ _ _ _ hn63 _ hhv).mono ?_
    rintro e w1 ⟨rfl, hb1⟩
    obtain ⟨K_c0, B_w1, l_w1⟩ := blk1 hb1
    replace G := Lib.hid (G.out.keep B_w1)
    replace HV := Lib.hid (HV.out.keep B_w1)
    replace HA := Lib.hid (HA.out.keep B_w1)
    have HB := Lib.hid B_w1
    have K_c := Lib.hid K_c0
    clear hb1 B_w1 K_c0
    have cK_c_0 := K_c.out.cell 0
    have cK_c_1 := K_c.out.cell 1
    simp at cK_c_0 cK_c_1
    have zK_c := K_c.out.lt
    go_wp2_with fail
    go_ret
    exact ⟨rfl, HB.out⟩
  have dm : decide ((6 : Int) < (m : Int)) = false := by simp; omega
  by_cases hr1 : r1 = 0
  · subst hr1
    obtain ⟨hRR, hr2, hck, _, hvs, hvr, hgn⟩ := doneS_ok hR.out
    subst hr2
    obtain ⟨_, v0, v1, _, hrows⟩ := checkC_ok hck
    have HTD : Hid (∀ x ∈ normF xss, Lits vars x) := fun x hx => ((norm_tidy hrows).2 x hx).2
    have HROWS := Lib.hid hrows
    have HVS := Lib.hid hvs
    have HRR := Lib.hid hRR
    have HCL : Hid (checkC vars (lastS vs (normF xss)) = (0, 0)) := (checkC_ok (gone_check vs (normF xss) [normF xss] 0 (by rw [check_norm hck]) (by rw [hgn]; simp))).1
    have HLL : Hid (∀ x ∈ lastS vs (normF xss), Lits vars x) := fun x hx => by obtain ⟨_, _, _, _, h4⟩ := checkC_ok (by rw [HCL.out] : (checkC vars (lastS vs (normF xss))).1 = 0); exact (h4 x hx).2
    have dv : (vars != vars) = false := by simp
    clear hRR hvr hgn hrows
    by_cases hpv : (p : Int) ≠ vars
    · have d2 : ((p : Int) != vars) = true := by simpa using hpv
      go_enter Try.func13, Try.ntmps13
      go_wp2_with fail
      refine (heavy_any _ _ _ _ _ hn63 _ hhv).mono ?_
      rintro e w1 ⟨rfl, hb1⟩
      obtain ⟨K_c0, B_w1, l_w1⟩ := blk1 hb1
      replace G := Lib.hid (G.out.keep B_w1)
      replace HV := Lib.hid (HV.out.keep B_w1)
      replace HA := Lib.hid (HA.out.keep B_w1)
      have HB := Lib.hid B_w1
      have K_c := Lib.hid K_c0
      clear hb1 B_w1 K_c0
      have cK_c_0 := K_c.out.cell 0
      have cK_c_1 := K_c.out.cell 1
      simp at cK_c_0 cK_c_1
      have zK_c := K_c.out.lt
      go_wp2_with fail
      refine (pair_any _).mono ?_
      rintro e w3 ⟨A5, n5, c5, rfl, hG5, hb3⟩
      have B_w3 := hb3
      replace G := Lib.hid (G.out.keep B_w3)
      replace HV := Lib.hid (HV.out.keep B_w3)
      replace HA := Lib.hid (HA.out.keep B_w3)
      replace K_c := Lib.hid (K_c.out.keep B_w3)
      replace HB := Lib.hid (below_next HB.out B_w3)
      clear hb3 B_w3
      clear cK_c_0 cK_c_1 zK_c
      have cK_c_0 := K_c.out.cell 0
      have cK_c_1 := K_c.out.cell 1
      simp at cK_c_0 cK_c_1
      have zK_c := K_c.out.lt
      have GP := Lib.hid hG5
      clear hG5
      go_wp2_with fail
      refine (mend_any _ _ _ _ _ _ _ _ _ [[1, 2], [-1]] [1] [true, true] 2 _ (GP.out.keep (below_alloc (below_new _ _) _)) ⟨by omega, by omega⟩ ((ints_made _ 3 [1] (by simp) (by simp [I64]) (by decide)).keep (below_new _ _)) (bools_made _ 4 [true, true] (by simp) (by decide)) [false, true] 0 0 mend_pair).mono ?_
      rintro e w4 ⟨A6, n6, c6, rfl, hO6, hb4⟩
      have hb4' := below_next (below_alloc (below_new _ _) _) hb4
      clear hb4
      have B_w4 := hb4'
      replace G := Lib.hid (G.out.keep B_w4)
      replace HV := Lib.hid (HV.out.keep B_w4)
      replace HA := Lib.hid (HA.out.keep B_w4)
      replace GP := Lib.hid (GP.out.keep B_w4)
      replace K_c := Lib.hid (K_c.out.keep B_w4)
      replace HB := Lib.hid (below_next HB.out B_w4)
      clear hb4' B_w4
      clear cK_c_0 cK_c_1 zK_c
      have cK_c_0 := K_c.out.cell 0
      have cK_c_1 := K_c.out.cell 1
      simp at cK_c_0 cK_c_1
      have zK_c := K_c.out.lt
      obtain rfl : n6 = 2 := by have := hO6.len; simpa using this.symm
      obtain ⟨gq, ub, hA6, _, hl6, hc60, _, hub0⟩ := hO6.at_ (k := 0) (by omega)
      subst hA6
      obtain ⟨_, ub1, hA6, _, _, hc61, _, hub1⟩ := hO6.at_ (k := 1) (by omega)
      cases hA6
      obtain rfl : ub = .bool false := by have := hub0.out; simpa using this.symm
      obtain rfl : ub1 = .bool true := by have := hub1.out; simpa using this.symm
      clear hO6 hub0 hub1 GP
      go_wp2_with fail
      refine (do_own _ _ _ _ _ _ xss vs vars _ (G.out.keep (below_new _ _)) hv (HV.out.keep (below_new _ _)) R hR).mono ?_
      rintro e w5 ⟨A2, n2, c2, rfl, hO2, hb5⟩
      clear hc60 hc61
      obtain ⟨K_h0, B_w5, l_w5⟩ := blk1 hb5
      replace G := Lib.hid (G.out.keep B_w5)
      replace HV := Lib.hid (HV.out.keep B_w5)
      replace HA := Lib.hid (HA.out.keep B_w5)
      replace K_c := Lib.hid (K_c.out.keep B_w5)
      replace HB := Lib.hid (below_next HB.out B_w5)
      have K_h := Lib.hid K_h0
      clear hb5 B_w5 K_h0
      clear cK_c_0 cK_c_1 zK_c
      have cK_c_0 := K_c.out.cell 0
      have cK_c_1 := K_c.out.cell 1
      simp at cK_c_0 cK_c_1
      have zK_c := K_c.out.lt
      have cK_h_0 := K_h.out.cell 0
      have cK_h_1 := K_h.out.cell 1
      simp at cK_h_0 cK_h_1
      have zK_h := K_h.out.lt
      have G2 := Lib.hid hO2.grid.clip
      clear hO2
      go_wp2_with fail
      refine (fine_any _ _ _ (lastS vs (normF xss)) vars _ (G2.out.keep (below_alloc (below_new _ _) _)) hv HCL).mono ?_
      rintro e w6 ⟨rfl, hb6⟩
      obtain ⟨K_d0, K_f0, B_w6, l_w6⟩ := two_blks hb6
      replace G := Lib.hid (G.out.keep B_w6)
      replace HV := Lib.hid (HV.out.keep B_w6)
      replace HA := Lib.hid (HA.out.keep B_w6)
      replace G2 := Lib.hid (G2.out.keep B_w6)
      replace K_c := Lib.hid (K_c.out.keep B_w6)
      replace K_h := Lib.hid (K_h.out.keep B_w6)
      replace HB := Lib.hid (below_next HB.out B_w6)
      have K_d := Lib.hid K_d0
      have K_f := Lib.hid K_f0
      clear hb6 B_w6 K_d0 K_f0
      clear cK_c_0 cK_c_1 zK_c cK_h_0 cK_h_1 zK_h
      have cK_c_0 := K_c.out.cell 0
      have cK_c_1 := K_c.out.cell 1
      simp at cK_c_0 cK_c_1
      have zK_c := K_c.out.lt
      have cK_h_0 := K_h.out.cell 0
      have cK_h_1 := K_h.out.cell 1
      simp at cK_h_0 cK_h_1
      have zK_h := K_h.out.lt
      have cK_d_0 := K_d.out.cell 0
      have cK_d_1 := K_d.out.cell 1
      simp at cK_d_0 cK_d_1
      have zK_d := K_d.out.lt
      have cK_f_0 := K_f.out.cell 0
      have cK_f_1 := K_f.out.cell 1
      simp at cK_f_0 cK_f_1
      have zK_f := K_f.out.lt
      go_wp2_with fail
      go_ret
      exact ⟨rfl, HB.out⟩
    · have hpv : (p : Int) = vars := by omega
      have d2 : ((p : Int) != vars) = false := by simpa using hpv
      have HIX : Hid (∀ x ∈ xss, InLits p x) := fun x hx => (HROWS.out x hx).2.inLits hpv
      have HIL : Hid (∀ x ∈ lastS vs (normF xss), InLits p x) := fun x hx => (HLL.out x hx).inLits hpv
      have HVA : Hid (∀ v ∈ vs, 1 ≤ v ∧ v ≤ a.length) := fun v hv' => by have h1 := HVS.out v hv'; have h2 := hla.out; omega
      obtain ⟨t, ht⟩ : ∃ t, Hid (allB (lastS vs (normF xss)) a = t) := ⟨_, rfl⟩
      have hts : Hid (someF xss vs a (2 ^ m) 0 = t) := by have h1 := last_some HTD.out HVA.out; rw [ht.out, some_norm, hlv.out] at h1; exact h1.symm
      obtain ⟨i0, hi0, hz0, hz1, hz2⟩ := info_parts bool_info
      have hp120 : p ≤ 120 := by omega
      obtain ⟨M, hM⟩ : ∃ M : Nat, Hid (M = 2 ^ m) := ⟨_, rfl⟩
      have hpw : M ≤ 64 := by rw [hM.out]; exact pow_le64 (by omega)
      have hts2 : Hid (someF xss vs a M 0 = t) := by rw [hM.out]; exact hts
      have hM2 : ((2 : Int) ^ m) = (M : Int) := by rw [hM.out]; simp
      have hMw : wrap64 ((2 : Int) ^ m) = (M : Int) := by rw [hM2]; unfold wrap64; omega
      have HMW := Lib.hid hMw
      clear hM2 hMw hts
      have HPV := Lib.hid hpv
      go_enter Try.func13, Try.ntmps13
      go_wp2_with fail
      refine (heavy_any _ _ _ _ _ hn63 _ hhv).mono ?_
      rintro e w1 ⟨rfl, hb1⟩
      obtain ⟨K_c0, B_w1, l_w1⟩ := blk1 hb1
      replace G := Lib.hid (G.out.keep B_w1)
      replace HV := Lib.hid (HV.out.keep B_w1)
      replace HA := Lib.hid (HA.out.keep B_w1)
      have HB := Lib.hid B_w1
      have K_c := Lib.hid K_c0
      clear hb1 B_w1 K_c0
      have cK_c_0 := K_c.out.cell 0
      have cK_c_1 := K_c.out.cell 1
      simp at cK_c_0 cK_c_1
      have zK_c := K_c.out.lt
      go_wp2_with fail
      refine (pair_any _).mono ?_
      rintro e w3 ⟨A5, n5, c5, rfl, hG5, hb3⟩
      have B_w3 := hb3
      replace G := Lib.hid (G.out.keep B_w3)
      replace HV := Lib.hid (HV.out.keep B_w3)
      replace HA := Lib.hid (HA.out.keep B_w3)
      replace K_c := Lib.hid (K_c.out.keep B_w3)
      replace HB := Lib.hid (below_next HB.out B_w3)
      clear hb3 B_w3
      clear cK_c_0 cK_c_1 zK_c
      have cK_c_0 := K_c.out.cell 0
      have cK_c_1 := K_c.out.cell 1
      simp at cK_c_0 cK_c_1
      have zK_c := K_c.out.lt
      have GP := Lib.hid hG5
      clear hG5
      go_wp2_with fail
      refine (mend_any _ _ _ _ _ _ _ _ _ [[1, 2], [-1]] [1] [true, true] 2 _ (GP.out.keep (below_alloc (below_new _ _) _)) ⟨by omega, by omega⟩ ((ints_made _ 3 [1] (by simp) (by simp [I64]) (by decide)).keep (below_new _ _)) (bools_made _ 4 [true, true] (by simp) (by decide)) [false, true] 0 0 mend_pair).mono ?_
      rintro e w4 ⟨A6, n6, c6, rfl, hO6, hb4⟩
      have hb4' := below_next (below_alloc (below_new _ _) _) hb4
      clear hb4
      have B_w4 := hb4'
      replace G := Lib.hid (G.out.keep B_w4)
      replace HV := Lib.hid (HV.out.keep B_w4)
      replace HA := Lib.hid (HA.out.keep B_w4)
      replace GP := Lib.hid (GP.out.keep B_w4)
      replace K_c := Lib.hid (K_c.out.keep B_w4)
      replace HB := Lib.hid (below_next HB.out B_w4)
      clear hb4' B_w4
      clear cK_c_0 cK_c_1 zK_c
      have cK_c_0 := K_c.out.cell 0
      have cK_c_1 := K_c.out.cell 1
      simp at cK_c_0 cK_c_1
      have zK_c := K_c.out.lt
      obtain rfl : n6 = 2 := by have := hO6.len; simpa using this.symm
      obtain ⟨gq, ub, hA6, _, hl6, hc60, _, hub0⟩ := hO6.at_ (k := 0) (by omega)
      subst hA6
      obtain ⟨_, ub1, hA6, _, _, hc61, _, hub1⟩ := hO6.at_ (k := 1) (by omega)
      cases hA6
      obtain rfl : ub = .bool false := by have := hub0.out; simpa using this.symm
      obtain rfl : ub1 = .bool true := by have := hub1.out; simpa using this.symm
      clear hO6 hub0 hub1 GP
      go_wp2_with fail
      refine (do_own _ _ _ _ _ _ xss vs vars _ (G.out.keep (below_new _ _)) hv (HV.out.keep (below_new _ _)) R hR).mono ?_
      rintro e w5 ⟨A2, n2, c2, rfl, hO2, hb5⟩
      clear hc60 hc61
      obtain ⟨K_h0, B_w5, l_w5⟩ := blk1 hb5
      replace G := Lib.hid (G.out.keep B_w5)
      replace HV := Lib.hid (HV.out.keep B_w5)
      replace HA := Lib.hid (HA.out.keep B_w5)
      replace K_c := Lib.hid (K_c.out.keep B_w5)
      replace HB := Lib.hid (below_next HB.out B_w5)
      have K_h := Lib.hid K_h0
      clear hb5 B_w5 K_h0
      clear cK_c_0 cK_c_1 zK_c
      have cK_c_0 := K_c.out.cell 0
      have cK_c_1 := K_c.out.cell 1
      simp at cK_c_0 cK_c_1
      have zK_c := K_c.out.lt
      have cK_h_0 := K_h.out.cell 0
      have cK_h_1 := K_h.out.cell 1
      simp at cK_h_0 cK_h_1
      have zK_h := K_h.out.lt
      have G2 := Lib.hid hO2.grid.clip
      clear hO2
      go_wp2_with fail
      refine (fine_any _ _ _ (lastS vs (normF xss)) vars _ (G2.out.keep (below_alloc (below_new _ _) _)) hv HCL).mono ?_
      rintro e w6 ⟨rfl, hb6⟩
      obtain ⟨K_d0, K_f0, B_w6, l_w6⟩ := two_blks hb6
      replace G := Lib.hid (G.out.keep B_w6)
      replace HV := Lib.hid (HV.out.keep B_w6)
      replace HA := Lib.hid (HA.out.keep B_w6)
      replace G2 := Lib.hid (G2.out.keep B_w6)
      replace K_c := Lib.hid (K_c.out.keep B_w6)
      replace K_h := Lib.hid (K_h.out.keep B_w6)
      replace HB := Lib.hid (below_next HB.out B_w6)
      have K_d := Lib.hid K_d0
      have K_f := Lib.hid K_f0
      clear hb6 B_w6 K_d0 K_f0
      clear cK_c_0 cK_c_1 zK_c cK_h_0 cK_h_1 zK_h
      have cK_c_0 := K_c.out.cell 0
      have cK_c_1 := K_c.out.cell 1
      simp at cK_c_0 cK_c_1
      have zK_c := K_c.out.lt
      have cK_h_0 := K_h.out.cell 0
      have cK_h_1 := K_h.out.cell 1
      simp at cK_h_0 cK_h_1
      have zK_h := K_h.out.lt
      have cK_d_0 := K_d.out.cell 0
      have cK_d_1 := K_d.out.cell 1
      simp at cK_d_0 cK_d_1
      have zK_d := K_d.out.lt
      have cK_f_0 := K_f.out.cell 0
      have cK_f_1 := K_f.out.cell 1
      simp at cK_f_0 cK_f_1
      have zK_f := K_f.out.lt
      have HAK := Lib.hid (Bools.keep HA.out (below_new w6 (.cells #[] 4)))
      have HB6 := Lib.hid HB.out
      go_wp2_with (first
        | (at_builtin
           refine wpList_append_sl _ rfl (.tmp 77) (.tmp 78) _ rfl w6.heap.size 4 i0 _ 1 Try.underlying38 hi0 hz0 hz1 hz2 rfl (some ⟨w6.heap.size, 0, none⟩) 0 0 [] rfl (own_empty _ _ _ rfl (Nat.le_refl _)) C p f _ rfl HAK.out (bools_one _) (by simp only [maxLen]; omega) (by omega) (by simp) ?_
           intro A9 c9 w9 hown hg hat))
      have O9 := Lib.hid (show Own 4 w9 w6.heap.size A9 p c9 (a.map Value.bool) from by simpa using hown)
      have B9 := Lib.hid (below_grown (below_new _ _) (own_empty 4 w6 w6.heap.size rfl (Nat.le_refl _)) (Nat.le_refl _) hg)
      clear hown hg hat HAK
      clear cK_c_0 cK_c_1 zK_c cK_h_0 cK_h_1 zK_h cK_d_0 cK_d_1 zK_d cK_f_0 cK_f_1 zK_f
      have hc9 := O9.out.sl.le
      have hc5 := O9.out.sl.cap
      unfold maxLen at hc5
      have hw6 := HB6.out.size
      have hm63 : (m : Int) ≤ 9223372036854775807 := by omega
      clear hpv d2 HB
      go_loopw [11, 13] (fun s11 s13 wr => ∃ (k : Nat) (so : Bool) (b0 : List Bool), k ≤ M ∧ s11 = .bool so ∧ s13 = .int .i64 k ∧ Hid (Own 4 wr w6.heap.size A9 p c9 (b0.map Value.bool)) ∧ Hid (b0.length = a.length ∧ ∀ q, NoAt vs q → b0[q]? = a[q]?) ∧ Hid ((so || someF xss vs a (M - k) k) = t) ∧ Hid (Below w6.heap.size w6 wr)) (fun _ s _ => M - (intOf s).toNat)
      case atStart => exact ⟨0, false, a, Nat.zero_le _, rfl, rfl, O9, ⟨rfl, fun _ _ => rfl⟩, by simpa [Hid] using hts2.out, B9⟩
      case round =>
        clear O9 B9
        obtain ⟨k, so, b0, hk, rfl, rfl, hO, hb0, hso, hbl⟩ := hrel
        have hwr := hbl.out.size
        by_cases hlt : k < M
        · have x1 : (k : Int) < (M : Int) := by omega
          obtain ⟨wi, hwi⟩ : ∃ wi : World, wi = wr := ⟨_, rfl⟩
          subst hwi
          have hso2 : Hid ((so || (allB xss (setL vs (bitsF vs.length k) a) || someF xss vs a (M - (k + 1)) (k + 1))) = t) := by have := hso.out; rw [show M - k = (M - (k + 1)) + 1 by omega, someF] at this; exact this
          have hset : Hid (setL vs (bitsF vs.length k) b0 = setL vs (bitsF vs.length k) a) := setL_again vs _ _ _ (bitsF_len _ _).symm hb0.out.1 hb0.out.2
          have hMw := HMW.out
          go_wp2_with fail
          clear hMw
          go_loopw [14] (fun s wr => ∃ (i : Nat) (bi : List Bool), i ≤ m ∧ s = .int .i64 i ∧ Hid (Own 4 wr w6.heap.size A9 p c9 (bi.map Value.bool)) ∧ Hid (setL (vs.drop i) ((bitsF vs.length k).drop i) bi = setL vs (bitsF vs.length k) b0) ∧ Hid (Below w6.heap.size w6 wr)) (fun s _ => m - (intOf s).toNat)
          case atStart => exact ⟨0, b0, Nat.zero_le _, rfl, hO, rfl, hbl⟩
          case round =>
            obtain ⟨i, bi, hi, rfl, hOi, hbi, hbli⟩ := hrel
            have hwri := hbli.out.size
            by_cases hlti : i < m
            · obtain ⟨b, off, v, hBe, hb, hcv, u1, u2, hvk⟩ := (HV.out.keep hbli.out).round (k := i) hlti
              subst hBe
              have hvb := HVS.out v (List.mem_of_getElem? hvk.out)
              have hpv' := HPV.out
              obtain ⟨u, hu⟩ : ∃ u : Nat, v = (u : Int) + 1 := ⟨(v - 1).toNat, by omega⟩
              have hun : u < p := by omega
              have hva : v.natAbs - 1 = u := by omega
              clear hpv'
              obtain ⟨g2, ub, hA4, hg2, hl2, hc2, hfr, hub⟩ := hOi.out.at_ hun
              subst hA4
              have x2 : (0 : Int) ≤ (i : Int) := by omega
              have x3 : (i : Int) < (m : Int) := by omega
              have x4 : v - 1 = (u : Int) := by omega
              have x5 : (0 : Int) ≤ (u : Int) := by omega
              have x6 : (u : Int) < (p : Int) := by omega
              have x7 : (i : Int) ≤ 6 := by omega
              have xw : IntKind.i64.wrap (u : Int) = (u : Int) := IntWalk.i64_in _ (by omega)
              go_wp2_with fail
              have hq := bit_and (k := k) (i := i) (by omega)
              have HQ := Lib.hid hq
              clear hq
              go_roundw
              case rel =>
                have hbit : (bitsF vs.length k)[i]? = some (k / 2 ^ i % 2 == 1) := bitsF_at _ _ _ (by rw [hlv.out]; exact hlti)
                refine ⟨i + 1, bi.set u (k / 2 ^ i % 2 == 1), by omega, by go_num, ?_, ?_, ?_⟩
                · rw [HQ.out, List.map_set]
                  exact hOi.out.set_ u _
                · have := hbi.out
                  rw [drop_cons_of hvk.out, drop_cons_of hbit, setL, hva] at this
                  exact this
                · exact hbli.out.setCell (p := ⟨g2, u, none⟩) hg2 _
              case measure => simp [intOf]; omega
            · obtain rfl : i = m := by omega
              have hbf : Hid (bi = setL vs (bitsF vs.length k) a) := by
                have := hbi.out
                rw [List.drop_of_length_le (by rw [hlv.out]; omega)] at this
                rw [hset.out] at this
                exact this
              have HO1 := Lib.hid (show Own 4 wr w6.heap.size A9 p c9 ((setL vs (bitsF vs.length k) a).map Value.bool) from by rw [← hbf.out]; exact hOi.out)
              have hb1 : Hid ((setL vs (bitsF vs.length k) a).length = a.length ∧ ∀ q, NoAt vs q → (setL vs (bitsF vs.length k) a)[q]? = a[q]?) := ⟨setL_len _ _ _, fun q hq => setL_out _ _ _ _ hq⟩
              have KC9 := Lib.hid (K_c.out.keep hbli.out)
              have cc0 := KC9.out.cell 0
              have cc1 := KC9.out.cell 1
              simp at cc0 cc1
              obtain ⟨wj, hwj⟩ : ∃ wj : World, wj = wr := ⟨_, rfl⟩
              subst hwj
              clear hOi hbi hO hbl
              cases so
              · obtain ⟨r5, hr5⟩ : ∃ r5, Hid (allB xss (setL vs (bitsF vs.length k) a) = r5) := ⟨_, rfl⟩
                have hso3 : Hid ((r5 || someF xss vs a (M - (k + 1)) (k + 1)) = t) := by have := hso2.out; rw [hr5.out] at this; simpa [Hid] using this
                go_wp2_with fail
                refine ((all_ref _ _ _ _ _ _ xss (setL vs (bitsF vs.length k) a) _ (G.out.keep hbli.out) HO1.out.sl HIX.out r5 hr5).mono (fun _ _ hh => hh.v)).mono ?_
                rintro e w10 ⟨rfl, hb10⟩
                have HO10 := Lib.hid (HO1.out.keep hb10)
                have BL10 := Lib.hid (below_next hbli.out hb10)
                clear hb10
                go_wp2_with fail
                go_roundw
                case rel => exact ⟨k + 1, r5, setL vs (bitsF vs.length k) a, by omega, by first | rfl | simp, by go_num, HO10, hb1, hso3, BL10⟩
                case measure => simp [intOf]; omega
              · have hso3 : Hid ((true || someF xss vs a (M - (k + 1)) (k + 1)) = t) := by have := hso2.out; simpa [Hid] using this
                go_wp2_with fail
                go_roundw
                case rel => exact ⟨k + 1, true, setL vs (bitsF vs.length k) a, by omega, rfl, by go_num, HO1, hb1, hso3, hbli⟩
                case measure => simp [intOf]; omega
        · obtain rfl : k = M := by omega
          have hst : so = t := by have := hso.out; rw [Nat.sub_self, someF] at this; simpa using this
          subst hst
          have HBx := Lib.hid (below_next HB6.out hbl.out)
          replace G := Lib.hid (G.out.keep hbl.out)
          replace HV := Lib.hid (HV.out.keep hbl.out)
          replace HA := Lib.hid (HA.out.keep hbl.out)
          replace G2 := Lib.hid (G2.out.keep hbl.out)
          have KC9 := Lib.hid (K_c.out.keep hbl.out)
          have KD9 := Lib.hid (K_d.out.keep hbl.out)
          have cc0 := KC9.out.cell 0
          have cc1 := KC9.out.cell 1
          simp at cc0 cc1
          obtain ⟨wm, hwm⟩ : ∃ wm : World, wm = wr := ⟨_, rfl⟩
          subst hwm
          obtain ⟨Z, z1, z2, hZ⟩ : ∃ Z z1 z2, Hid (mendS vars xss vs a = (Z, z1, z2)) := ⟨_, _, _, rfl⟩
          have hMw := HMW.out
          clear hO hb0 hso
          go_wp2_with fail
          clear hMw
          refine (mend_any _ _ _ _ _ _ _ _ _ xss vs a vars _ G.out hv HV.out HA.out Z z1 z2 hZ).mono ?_
          rintro e w11 ⟨A8, n8, c8, rfl, hO8, hb11⟩
          have hbx := hO8.sl.le
          have hbx2 := hO8.sl.cap
          unfold maxLen at hbx2
          have O8 := Lib.hid hO8
          have B11 := Lib.hid (below_next HBx.out hb11)
          have BF := Lib.hid (below_alloc hb11 (.cells #[.int .i64 z1, .int .i64 z2] 28))
          have kd1 := (KD9.out.keep hb11).cell 1
          have kc0 := (KC9.out.keep hb11).cell 0
          have kc1 := (KC9.out.keep hb11).cell 1
          have zd := (KD9.out.keep hb11).lt
          have zc := (KC9.out.keep hb11).lt
          simp at kd1 kc0 kc1
          clear hO8 hb11 cc0 cc1
          have d2 : ((p : Int) != vars) = false := by have := HPV.out; simpa using this
          go_wp2_with fail
          refine ((all_ref _ _ _ _ _ _ (lastS vs (normF xss)) a _ (G2.out.keep BF.out) (HA.out.keep BF.out) HIL.out so ht).mono (fun _ _ hh => hh.v)).mono ?_
          rintro e w12 ⟨rfl, hb12⟩
          have KZ := Lib.hid ((Blk.new w11 28 #[.int .i64 z1, .int .i64 z2]).keep hb12)
          have B12 := Lib.hid (below_next (below_new w11 _) hb12)
          have BX := Lib.hid (below_next B11.out B12.out)
          have BY := Lib.hid (below_next BF.out hb12)
          have q0 := KZ.out.cell 0
          have q1 := KZ.out.cell 1
          simp at q0 q1
          have KCx := Lib.hid (KC9.out.keep BY.out)
          have r0 := KCx.out.cell 0
          have r1 := KCx.out.cell 1
          simp at r0 r1
          clear hb12 kd1 kc0 kc1 zd zc
          have hZ2 : Hid ((if so = false then ([], (11 : Int), (0 : Int)) else (mendF vs R a, 0, 0)) = (Z, z1, z2)) := by have := hZ.out; rw [mendS, hR.out, if_neg (by simp), hla.out, if_neg (by have := HPV.out; simpa using this), ht.out] at this; exact this
          cases so
          · obtain ⟨rfl, rfl, rfl⟩ : [] = Z ∧ 11 = z1 ∧ 0 = z2 := by have := hZ2.out; rw [if_pos rfl] at this; simpa using this
            obtain rfl : 0 = n8 := by have := O8.out.len; simpa using this
            go_wp2_with fail
            go_ret
            exact ⟨rfl, BX.out⟩
          · obtain ⟨rfl, rfl, rfl⟩ : mendF vs R a = Z ∧ 0 = z1 ∧ 0 = z2 := by have := hZ2.out; rw [if_neg (by simp)] at this; simpa using this
            obtain rfl : p = n8 := by have h1 := O8.out.len; rw [List.length_map, mendF_len, hla.out] at h1; exact h1
            have HMD : Hid (allB xss (mendF vs R a) = true) := by
              have h1 := mend_ok vs (normF xss) a HTD.out HVA.out ht.out
              rw [← HRR.out, allB_norm] at h1
              exact h1
            have HMB := Lib.hid (show Bools w12 A8 p c8 (mendF vs R a) from (O8.out.keep B12.out).sl)
            replace HV := Lib.hid (HV.out.keep BY.out)
            replace HA := Lib.hid (HA.out.keep BY.out)
            clear O8 hZ2
            go_wp2_with fail
            refine ((all_ref _ _ _ _ _ _ xss (mendF vs R a) _ (G.out.keep BY.out) HMB.out HIX.out true HMD).mono (fun _ _ hh => hh.v)).mono ?_
            rintro e w13 ⟨rfl, hb13⟩
            have BZ := Lib.hid (below_next BX.out hb13)
            replace HMB := Lib.hid (Bools.keep HMB.out hb13)
            replace HV := Lib.hid (HV.out.keep hb13)
            replace HA := Lib.hid (Bools.keep HA.out hb13)
            have KCy := Lib.hid (KCx.out.keep hb13)
            clear hb13 q0 q1 r0 r1
            have hp63 : (p : Int) ≤ 9223372036854775807 := by omega
            go_wp2_with fail
            go_loopw [17] (fun s wr => ∃ u : Nat, u ≤ p ∧ s = .int .i64 ((u : Int) + 1) ∧ Hid (∃ q, wr = w13.drewN q)) (fun s _ => p + 1 - (intOf s).toNat)
            case atStart => exact ⟨0, Nat.zero_le _, rfl, ⟨0, rfl⟩⟩
            case round =>
              obtain ⟨u, hu, rfl, hqq⟩ := hrel
              have hbw : Below w13.heap.size w13 wr := by obtain ⟨q, rfl⟩ := hqq.out; exact below_drewN _ _
              have cy0 := (KCy.out.keep hbw).cell 0
              simp at cy0
              by_cases hlt2 : u < p
              · obtain ⟨b1, off1, v1', hE1, hb1, hc1, hv1⟩ := Bools.round (Bools.keep HMB.out hbw) hlt2
                obtain ⟨b2, off2, v2', hE2, hb2, hc2', hv2⟩ := Bools.round (Bools.keep HA.out hbw) hlt2
                subst hE1 hE2
                have HBW := Lib.hid hbw
                clear hbw
                have x1 : (0 : Int) ≤ (u : Int) := by omega
                have x2 : (u : Int) < (p : Int) := by omega
                have x3 : (u : Int) + 1 ≤ vars := by have := HPV.out; omega
                have x4 : (u : Int) + 1 - 1 = (u : Int) := by omega
                have xw : IntKind.i64.wrap (u : Int) = (u : Int) := IntWalk.i64_in _ (by omega)
                by_cases hee : v1' = v2'
                · subst hee
                  have dvv : (v1' != v1') = false := by cases v1' <;> rfl
                  go_wp2_with fail
                  go_quiet (fail)
                  go_wp2_with fail
                  go_roundw
                  case rel => exact ⟨u + 1, by omega, by go_num, by obtain ⟨q, rfl⟩ := hqq.out; exact ⟨_, World.drewN_drewN _ _ _⟩⟩
                  case measure => simp [intOf]; omega
                · have dvv : (v1' != v2') = true := by simpa using hee
                  have hhas : Hid (hasB vs ((u : Int) + 1) = true) := by
                    show _ = _
                    rw [hasB_iff]
                    have h2 : ¬ NoAt vs u := fun hno => by
                      have h3 := mendF_out vs R a u hno
                      rw [hv1.out, hv2.out] at h3
                      exact hee (Option.some.inj h3)
                    unfold NoAt at h2
                    obtain ⟨v, h3⟩ := Classical.not_forall.1 h2
                    obtain ⟨h4, h5⟩ := Classical.not_imp.1 h3
                    have h6 := HVS.out v h4
                    have h7 : v = (u : Int) + 1 := by have : v.natAbs - 1 = u := Classical.not_not.1 h5; omega
                    rw [← h7]
                    exact h4
                  have HVk := Lib.hid (HV.out.keep HBW.out)
                  go_wp2_with fail
                  go_quiet ((go_at_call 41; with_reducible exact RetQ.quiet (has_any _ _ _ _ _ _ (HVk.out.drewN _) _ hhas)))
                  go_wp2_with fail
                  go_roundw
                  case rel => exact ⟨u + 1, by omega, by go_num, by obtain ⟨q, rfl⟩ := hqq.out; exact ⟨_, World.drewN_drewN _ _ _⟩⟩
                  case measure => simp [intOf]; omega
              · obtain rfl : u = p := by omega
                have x3 : vars < (u : Int) + 1 := by have := HPV.out; omega
                go_wp2_with fail
                go_ret
                exact ⟨rfl, by obtain ⟨q, rfl⟩ := hqq.out; exact below_next BZ.out (below_drewN _ _)⟩
  · have d1 : (r1 != 0) = true := by simpa using hr1
    go_enter Try.func13, Try.ntmps13
    go_wp2_with fail
    refine (heavy_any _ _ _ _ _ hn63 _ hhv).mono ?_
    rintro e w1 ⟨rfl, hb1⟩
    obtain ⟨K_c0, B_w1, l_w1⟩ := blk1 hb1
    replace G := Lib.hid (G.out.keep B_w1)
    replace HV := Lib.hid (HV.out.keep B_w1)
    replace HA := Lib.hid (HA.out.keep B_w1)
    have HB := Lib.hid B_w1
    have K_c := Lib.hid K_c0
    clear hb1 B_w1 K_c0
    have cK_c_0 := K_c.out.cell 0
    have cK_c_1 := K_c.out.cell 1
    simp at cK_c_0 cK_c_1
    have zK_c := K_c.out.lt
    go_wp2_with fail
    refine (pair_any _).mono ?_
    rintro e w3 ⟨A5, n5, c5, rfl, hG5, hb3⟩
    have B_w3 := hb3
    replace G := Lib.hid (G.out.keep B_w3)
    replace HV := Lib.hid (HV.out.keep B_w3)
    replace HA := Lib.hid (HA.out.keep B_w3)
    replace K_c := Lib.hid (K_c.out.keep B_w3)
    replace HB := Lib.hid (below_next HB.out B_w3)
    clear hb3 B_w3
    clear cK_c_0 cK_c_1 zK_c
    have cK_c_0 := K_c.out.cell 0
    have cK_c_1 := K_c.out.cell 1
    simp at cK_c_0 cK_c_1
    have zK_c := K_c.out.lt
    have GP := Lib.hid hG5
    clear hG5
    go_wp2_with fail
    refine (mend_any _ _ _ _ _ _ _ _ _ [[1, 2], [-1]] [1] [true, true] 2 _ (GP.out.keep (below_alloc (below_new _ _) _)) ⟨by omega, by omega⟩ ((ints_made _ 3 [1] (by simp) (by simp [I64]) (by decide)).keep (below_new _ _)) (bools_made _ 4 [true, true] (by simp) (by decide)) [false, true] 0 0 mend_pair).mono ?_
    rintro e w4 ⟨A6, n6, c6, rfl, hO6, hb4⟩
    have hb4' := below_next (below_alloc (below_new _ _) _) hb4
    clear hb4
    have B_w4 := hb4'
    replace G := Lib.hid (G.out.keep B_w4)
    replace HV := Lib.hid (HV.out.keep B_w4)
    replace HA := Lib.hid (HA.out.keep B_w4)
    replace GP := Lib.hid (GP.out.keep B_w4)
    replace K_c := Lib.hid (K_c.out.keep B_w4)
    replace HB := Lib.hid (below_next HB.out B_w4)
    clear hb4' B_w4
    clear cK_c_0 cK_c_1 zK_c
    have cK_c_0 := K_c.out.cell 0
    have cK_c_1 := K_c.out.cell 1
    simp at cK_c_0 cK_c_1
    have zK_c := K_c.out.lt
    obtain rfl : n6 = 2 := by have := hO6.len; simpa using this.symm
    obtain ⟨gq, ub, hA6, _, hl6, hc60, _, hub0⟩ := hO6.at_ (k := 0) (by omega)
    subst hA6
    obtain ⟨_, ub1, hA6, _, _, hc61, _, hub1⟩ := hO6.at_ (k := 1) (by omega)
    cases hA6
    obtain rfl : ub = .bool false := by have := hub0.out; simpa using this.symm
    obtain rfl : ub1 = .bool true := by have := hub1.out; simpa using this.symm
    clear hO6 hub0 hub1 GP
    go_wp2_with fail
    refine (do_bad _ _ _ _ _ _ xss vs vars _ (G.out.keep (below_new _ _)) hv (HV.out.keep (below_new _ _)) R r1 r2 hR hr1).mono ?_
    rintro e w5 ⟨rfl, hb5⟩
    clear hc60 hc61
    obtain ⟨K_h0, B_w5, l_w5⟩ := blk1 hb5
    replace G := Lib.hid (G.out.keep B_w5)
    replace HV := Lib.hid (HV.out.keep B_w5)
    replace HA := Lib.hid (HA.out.keep B_w5)
    replace K_c := Lib.hid (K_c.out.keep B_w5)
    replace HB := Lib.hid (below_next HB.out B_w5)
    have K_h := Lib.hid K_h0
    clear hb5 B_w5 K_h0
    clear cK_c_0 cK_c_1 zK_c
    have cK_c_0 := K_c.out.cell 0
    have cK_c_1 := K_c.out.cell 1
    simp at cK_c_0 cK_c_1
    have zK_c := K_c.out.lt
    have cK_h_0 := K_h.out.cell 0
    have cK_h_1 := K_h.out.cell 1
    simp at cK_h_0 cK_h_1
    have zK_h := K_h.out.lt
    go_wp2_with fail
    refine (none_any _ _ _ _ _ (by omega) true (by rfl)).mono ?_
    rintro e w7 ⟨rfl, hb7⟩
    obtain ⟨K_x0, K_y0, B_w7, l_w7⟩ := two_blks hb7
    replace G := Lib.hid (G.out.keep B_w7)
    replace HV := Lib.hid (HV.out.keep B_w7)
    replace HA := Lib.hid (HA.out.keep B_w7)
    replace K_c := Lib.hid (K_c.out.keep B_w7)
    replace K_h := Lib.hid (K_h.out.keep B_w7)
    replace HB := Lib.hid (below_next HB.out B_w7)
    have K_x := Lib.hid K_x0
    have K_y := Lib.hid K_y0
    clear hb7 B_w7 K_x0 K_y0
    clear cK_c_0 cK_c_1 zK_c cK_h_0 cK_h_1 zK_h
    have cK_c_0 := K_c.out.cell 0
    have cK_c_1 := K_c.out.cell 1
    simp at cK_c_0 cK_c_1
    have zK_c := K_c.out.lt
    have cK_h_0 := K_h.out.cell 0
    have cK_h_1 := K_h.out.cell 1
    simp at cK_h_0 cK_h_1
    have zK_h := K_h.out.lt
    have cK_x_0 := K_x.out.cell 0
    have cK_x_1 := K_x.out.cell 1
    simp at cK_x_0 cK_x_1
    have zK_x := K_x.out.lt
    have cK_y_0 := K_y.out.cell 0
    have cK_y_1 := K_y.out.cell 1
    simp at cK_y_0 cK_y_1
    have zK_y := K_y.out.lt
    go_wp2_with fail
    go_ret
    exact ⟨rfl, HB.out⟩
end Go.Proofs.Ytecgmgidfjbamaa
