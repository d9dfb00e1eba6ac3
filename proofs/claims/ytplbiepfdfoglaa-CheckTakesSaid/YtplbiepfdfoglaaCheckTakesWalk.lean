/- The walk of CheckTakes: it returns true. (Printed by wip/tools/checklaws.py.) -/
import Derived.Test.YtplbiepfdfoglaaAgainst
import Derived.Test.YtplbiepfdfoglaaHeavy
import Derived.Test.YtplbiepfdfoglaaStepsWrong
import Derived.Test.YtplbiepfdfoglaaRefused
namespace Go.Proofs.Ytplbiepfdfoglaa
open Go.RowKit
set_option linter.unusedSimpArgs false

set_option maxHeartbeats 8000000 in
set_option maxRecDepth 100000 in
theorem checkTakes_walk {vars : Int} {A B : Option Addr} {n c m d : Nat} {xss : List (List Int)} {rs : List (Int × List Int)} (w : World) (hv : I64 vars) (h : Grid w A n c xss) (h' : Steps w B m d rs) :
    Calls Try.prog 4 #[.agg #[.int .i64 vars, .slice A n c], .slice B m d] w fun e w' => e = .returned (.bool true) ∧ Below w.heap.size w w' := by
  have hbd := h.bd
  have hbd' := h'.bd
  have hlen := Lib.hid h.len
  have hlv := Lib.hid h'.len
  have G := Lib.hid h
  have HV := Lib.hid h'
  have hn63 : n ≤ 9223372036854775807 := by omega
  obtain ⟨hvy, hhv⟩ : ∃ r, Hid ((decide (40 < vars) || decide (60 < (n : Int))) = r) := ⟨_, rfl⟩
  clear h h'
  obtain ⟨q1, q2, hq⟩ : ∃ q1 q2, Hid (stepsR vars xss rs = (q1, q2)) := ⟨_, _, rfl⟩
  cases hvy
  rotate_left
  · go_enter Try.func4, Try.ntmps4
    go_wp2_with fail
    refine (heavy_any _ _ _ _ _ hn63 _ hhv).mono ?_
    rintro e w1 ⟨rfl, hb1⟩
    obtain ⟨K_c0, B_w1, l_w1⟩ := blk1 hb1
    replace G := Lib.hid (G.out.keep B_w1)
    replace HV := Lib.hid (HV.out.keep B_w1)
    have HB := Lib.hid B_w1
    have K_c := Lib.hid K_c0
    clear hb1 B_w1 K_c0
    have cK_c_0 := K_c.out.cell 0
    have cK_c_1 := K_c.out.cell 1
    simp at cK_c_0 cK_c_1
    have zK_c := K_c.out.lt
    go_wp2_with fail
    go_ret
    exact ⟨rfl, HB.out⟩
  by_cases hm8 : 80 < m ∧ m ≤ 3000
  · obtain ⟨hm8, hm9⟩ := hm8
    have dm : decide ((80 : Int) < (m : Int)) = true := by simp; omega
    have dm2 : decide ((m : Int) ≤ (3000 : Int)) = true := by simp; omega
    go_enter Try.func4, Try.ntmps4
    go_wp2_with fail
    refine (heavy_any _ _ _ _ _ hn63 _ hhv).mono ?_
    rintro e w1 ⟨rfl, hb1⟩
    obtain ⟨K_c0, B_w1, l_w1⟩ := blk1 hb1
    replace G := Lib.hid (G.out.keep B_w1)
    replace HV := Lib.hid (HV.out.keep B_w1)
    have HB := Lib.hid B_w1
    have K_c := Lib.hid K_c0
    clear hb1 B_w1 K_c0
    have cK_c_0 := K_c.out.cell 0
    have cK_c_1 := K_c.out.cell 1
    simp at cK_c_0 cK_c_1
    have zK_c := K_c.out.lt
    go_wp2_with fail
    go_ret
    exact ⟨rfl, HB.out⟩
  obtain ⟨z, r1, r2, hz⟩ : ∃ z r1 r2, Hid (whyS vars xss rs = (z, r1, r2)) := ⟨_, _, _, rfl⟩
  have hcut : m ≤ 80 ∨ 3000 < m := by omega
  clear hm8
  by_cases hq1 : q1 = 0
  rotate_left
  · have d1 : (q1 != 0) = true := by simpa using hq1
    have e1 : (q1 == q1) = true := by simp
    have e2 : (q2 == q2) = true := by simp
    obtain ⟨rfl, rfl, rfl⟩ : 0 = z ∧ q1 = r1 ∧ q2 = r2 := by have := hz.out; rw [whyS, hq.out, if_pos hq1] at this; simpa using this
    rcases hcut with hc | hc
    · have dm : decide ((80 : Int) < (m : Int)) = false := by simp; omega
      go_enter Try.func4, Try.ntmps4
      go_wp2_with fail
      refine (heavy_any _ _ _ _ _ hn63 _ hhv).mono ?_
      rintro e w1 ⟨rfl, hb1⟩
      obtain ⟨K_c0, B_w1, l_w1⟩ := blk1 hb1
      replace G := Lib.hid (G.out.keep B_w1)
      replace HV := Lib.hid (HV.out.keep B_w1)
      have HB := Lib.hid B_w1
      have K_c := Lib.hid K_c0
      clear hb1 B_w1 K_c0
      have cK_c_0 := K_c.out.cell 0
      have cK_c_1 := K_c.out.cell 1
      simp at cK_c_0 cK_c_1
      have zK_c := K_c.out.lt
      go_wp2_with fail
      refine (take_any _ _ _ _ _ _ xss rs vars _ G.out hv HV.out 0 q1 q2 hz false (by show _ = _; simp [hq1])).mono ?_
      rintro e w2 ⟨rfl, hb⟩
      have B_w2 := hb
      replace G := Lib.hid (G.out.keep B_w2)
      replace HV := Lib.hid (HV.out.keep B_w2)
      replace K_c := Lib.hid (K_c.out.keep B_w2)
      replace HB := Lib.hid (below_next HB.out B_w2)
      clear hb B_w2
      clear cK_c_0 cK_c_1 zK_c
      have cK_c_0 := K_c.out.cell 0
      have cK_c_1 := K_c.out.cell 1
      simp at cK_c_0 cK_c_1
      have zK_c := K_c.out.lt
      go_wp2_with fail
      refine (stepsWrong_any _ _ _ _ _ _ xss rs vars _ (G.out.keep (below_new _ _)) hv (HV.out.keep (below_new _ _)) q1 q2 hq).mono ?_
      rintro e w3 ⟨rfl, hb3⟩
      obtain ⟨K_f0, B_w3, l_w3⟩ := blk1 hb3
      replace G := Lib.hid (G.out.keep B_w3)
      replace HV := Lib.hid (HV.out.keep B_w3)
      replace K_c := Lib.hid (K_c.out.keep B_w3)
      replace HB := Lib.hid (below_next HB.out B_w3)
      have K_f := Lib.hid K_f0
      clear hb3 B_w3 K_f0
      clear cK_c_0 cK_c_1 zK_c
      have cK_c_0 := K_c.out.cell 0
      have cK_c_1 := K_c.out.cell 1
      simp at cK_c_0 cK_c_1
      have zK_c := K_c.out.lt
      have cK_f_0 := K_f.out.cell 0
      have cK_f_1 := K_f.out.cell 1
      simp at cK_f_0 cK_f_1
      have zK_f := K_f.out.lt
      go_wp2_with fail
      go_ret
      exact ⟨rfl, below_next HB.out (below_new _ _)⟩
    · have dm : decide ((80 : Int) < (m : Int)) = true := by simp; omega
      have dm2 : decide ((m : Int) ≤ (3000 : Int)) = false := by simp; omega
      go_enter Try.func4, Try.ntmps4
      go_wp2_with fail
      refine (heavy_any _ _ _ _ _ hn63 _ hhv).mono ?_
      rintro e w1 ⟨rfl, hb1⟩
      obtain ⟨K_c0, B_w1, l_w1⟩ := blk1 hb1
      replace G := Lib.hid (G.out.keep B_w1)
      replace HV := Lib.hid (HV.out.keep B_w1)
      have HB := Lib.hid B_w1
      have K_c := Lib.hid K_c0
      clear hb1 B_w1 K_c0
      have cK_c_0 := K_c.out.cell 0
      have cK_c_1 := K_c.out.cell 1
      simp at cK_c_0 cK_c_1
      have zK_c := K_c.out.lt
      go_wp2_with fail
      refine (take_any _ _ _ _ _ _ xss rs vars _ G.out hv HV.out 0 q1 q2 hz false (by show _ = _; simp [hq1])).mono ?_
      rintro e w2 ⟨rfl, hb⟩
      have B_w2 := hb
      replace G := Lib.hid (G.out.keep B_w2)
      replace HV := Lib.hid (HV.out.keep B_w2)
      replace K_c := Lib.hid (K_c.out.keep B_w2)
      replace HB := Lib.hid (below_next HB.out B_w2)
      clear hb B_w2
      clear cK_c_0 cK_c_1 zK_c
      have cK_c_0 := K_c.out.cell 0
      have cK_c_1 := K_c.out.cell 1
      simp at cK_c_0 cK_c_1
      have zK_c := K_c.out.lt
      go_wp2_with fail
      refine (stepsWrong_any _ _ _ _ _ _ xss rs vars _ (G.out.keep (below_new _ _)) hv (HV.out.keep (below_new _ _)) q1 q2 hq).mono ?_
      rintro e w3 ⟨rfl, hb3⟩
      obtain ⟨K_f0, B_w3, l_w3⟩ := blk1 hb3
      replace G := Lib.hid (G.out.keep B_w3)
      replace HV := Lib.hid (HV.out.keep B_w3)
      replace K_c := Lib.hid (K_c.out.keep B_w3)
      replace HB := Lib.hid (below_next HB.out B_w3)
      have K_f := Lib.hid K_f0
      clear hb3 B_w3 K_f0
      clear cK_c_0 cK_c_1 zK_c
      have cK_c_0 := K_c.out.cell 0
      have cK_c_1 := K_c.out.cell 1
      simp at cK_c_0 cK_c_1
      have zK_c := K_c.out.lt
      have cK_f_0 := K_f.out.cell 0
      have cK_f_1 := K_f.out.cell 1
      simp at cK_f_0 cK_f_1
      have zK_f := K_f.out.lt
      go_wp2_with fail
      go_ret
      exact ⟨rfl, below_next HB.out (below_new _ _)⟩
  · subst hq1
    obtain ⟨hs0, hck, hm3, hrs⟩ := stepsR_ok (vars := vars) (xss := xss) (rs := rs) (by rw [hq.out])
    obtain rfl : q2 = 0 := by rw [hq.out] at hs0; simpa using hs0
    rw [hlv.out] at hm3
    obtain ⟨_, v0, v1, hn400, hrows⟩ := checkC_ok hck
    obtain ⟨hzz, rfl, rfl⟩ : whyF vars m xss rs 0 = z ∧ 0 = r1 ∧ 0 = r2 := by have := hz.out; rw [whyS, hq.out, if_neg (by simp), hlv.out] at this; simpa using this
    have HZZ := Lib.hid hzz
    have hn4 : n ≤ 400 := by have := hlen.out; omega
    have HRS := Lib.hid hrs
    have HL0 : Hid (∀ x ∈ xss, Lits vars x) := fun x hx => (hrows x hx).2
    have dm : decide ((80 : Int) < (m : Int)) = false := by simp; omega
    have ez : (z == z) = true := by simp
    obtain ⟨q, hqz⟩ : ∃ q, (z == -1) = q := ⟨_, rfl⟩
    have HQ : Hid ((decide ((0 : Int) = 0) && decide (z = -1)) = q) := by show _ = _; rw [← hqz]; by_cases h : z = -1 <;> simp [h]
    have eq2 : (q == q) = true := by cases q <;> rfl
    clear hs0 hck hrs hrows hn400 hzz hcut
    go_enter Try.func4, Try.ntmps4
    go_wp2_with fail
    refine (heavy_any _ _ _ _ _ hn63 _ hhv).mono ?_
    rintro e w1 ⟨rfl, hb1⟩
    obtain ⟨K_c0, B_w1, l_w1⟩ := blk1 hb1
    replace G := Lib.hid (G.out.keep B_w1)
    replace HV := Lib.hid (HV.out.keep B_w1)
    have HB := Lib.hid B_w1
    have K_c := Lib.hid K_c0
    clear hb1 B_w1 K_c0
    have cK_c_0 := K_c.out.cell 0
    have cK_c_1 := K_c.out.cell 1
    simp at cK_c_0 cK_c_1
    have zK_c := K_c.out.lt
    go_wp2_with fail
    refine (take_any _ _ _ _ _ _ xss rs vars _ G.out hv HV.out z 0 0 hz q HQ).mono ?_
    rintro e w2 ⟨rfl, hb⟩
    have B_w2 := hb
    replace G := Lib.hid (G.out.keep B_w2)
    replace HV := Lib.hid (HV.out.keep B_w2)
    replace K_c := Lib.hid (K_c.out.keep B_w2)
    replace HB := Lib.hid (below_next HB.out B_w2)
    clear hb B_w2
    clear cK_c_0 cK_c_1 zK_c
    have cK_c_0 := K_c.out.cell 0
    have cK_c_1 := K_c.out.cell 1
    simp at cK_c_0 cK_c_1
    have zK_c := K_c.out.lt
    go_wp2_with fail
    refine (stepsWrong_any _ _ _ _ _ _ xss rs vars _ (G.out.keep (below_new _ _)) hv (HV.out.keep (below_new _ _)) 0 0 hq).mono ?_
    rintro e w3 ⟨rfl, hb3⟩
    obtain ⟨K_f0, B_w3, l_w3⟩ := blk1 hb3
    replace G := Lib.hid (G.out.keep B_w3)
    replace HV := Lib.hid (HV.out.keep B_w3)
    replace K_c := Lib.hid (K_c.out.keep B_w3)
    replace HB := Lib.hid (below_next HB.out B_w3)
    have K_f := Lib.hid K_f0
    clear hb3 B_w3 K_f0
    clear cK_c_0 cK_c_1 zK_c
    have cK_c_0 := K_c.out.cell 0
    have cK_c_1 := K_c.out.cell 1
    simp at cK_c_0 cK_c_1
    have zK_c := K_c.out.lt
    have cK_f_0 := K_f.out.cell 0
    have cK_f_1 := K_f.out.cell 1
    simp at cK_f_0 cK_f_1
    have zK_f := K_f.out.lt
    go_wp2_with fail
    refine (against_any _).mono ?_
    rintro e w4 ⟨A5, n5, c5, rfl, hG5, hb4⟩
    obtain ⟨K_x0, B_w4, l_w4⟩ := blk1 hb4
    replace G := Lib.hid (G.out.keep B_w4)
    replace HV := Lib.hid (HV.out.keep B_w4)
    replace K_c := Lib.hid (K_c.out.keep B_w4)
    replace K_f := Lib.hid (K_f.out.keep B_w4)
    replace HB := Lib.hid (below_next HB.out B_w4)
    have K_x := Lib.hid K_x0
    clear hb4 B_w4 K_x0
    clear cK_c_0 cK_c_1 zK_c cK_f_0 cK_f_1 zK_f
    have cK_c_0 := K_c.out.cell 0
    have cK_c_1 := K_c.out.cell 1
    simp at cK_c_0 cK_c_1
    have zK_c := K_c.out.lt
    have cK_f_0 := K_f.out.cell 0
    have cK_f_1 := K_f.out.cell 1
    simp at cK_f_0 cK_f_1
    have zK_f := K_f.out.lt
    have cK_x_0 := K_x.out.cell 0
    have cK_x_1 := K_x.out.cell 1
    simp at cK_x_0 cK_x_1
    have zK_x := K_x.out.lt
    have GP := Lib.hid hG5
    clear hG5
    go_wp2_with fail
    refine (end_any _).mono ?_
    rintro e w5 ⟨A6, n6, c6, rfl, hS6, hb5⟩
    have B_w5 := hb5
    replace G := Lib.hid (G.out.keep B_w5)
    replace HV := Lib.hid (HV.out.keep B_w5)
    replace GP := Lib.hid (GP.out.keep B_w5)
    replace K_c := Lib.hid (K_c.out.keep B_w5)
    replace K_f := Lib.hid (K_f.out.keep B_w5)
    replace K_x := Lib.hid (K_x.out.keep B_w5)
    replace HB := Lib.hid (below_next HB.out B_w5)
    clear hb5 B_w5
    clear cK_c_0 cK_c_1 zK_c cK_f_0 cK_f_1 zK_f cK_x_0 cK_x_1 zK_x
    have cK_c_0 := K_c.out.cell 0
    have cK_c_1 := K_c.out.cell 1
    simp at cK_c_0 cK_c_1
    have zK_c := K_c.out.lt
    have cK_f_0 := K_f.out.cell 0
    have cK_f_1 := K_f.out.cell 1
    simp at cK_f_0 cK_f_1
    have zK_f := K_f.out.lt
    have cK_x_0 := K_x.out.cell 0
    have cK_x_1 := K_x.out.cell 1
    simp at cK_x_0 cK_x_1
    have zK_x := K_x.out.lt
    have SP := Lib.hid hS6
    clear hS6
    go_wp2_with fail
    refine (take_any _ _ _ _ _ _ [[1, 2], [-1], [-2]] [(1, [])] 2 _ GP.out ⟨by omega, by omega⟩ SP.out (-1) 0 0 why_end true (by show _ = _; rfl)).mono ?_
    rintro e w6 ⟨rfl, hb⟩
    have B_w6 := hb
    replace G := Lib.hid (G.out.keep B_w6)
    replace HV := Lib.hid (HV.out.keep B_w6)
    replace GP := Lib.hid (GP.out.keep B_w6)
    replace SP := Lib.hid (SP.out.keep B_w6)
    replace K_c := Lib.hid (K_c.out.keep B_w6)
    replace K_f := Lib.hid (K_f.out.keep B_w6)
    replace K_x := Lib.hid (K_x.out.keep B_w6)
    replace HB := Lib.hid (below_next HB.out B_w6)
    clear hb B_w6
    clear cK_c_0 cK_c_1 zK_c cK_f_0 cK_f_1 zK_f cK_x_0 cK_x_1 zK_x
    have cK_c_0 := K_c.out.cell 0
    have cK_c_1 := K_c.out.cell 1
    simp at cK_c_0 cK_c_1
    have zK_c := K_c.out.lt
    have cK_f_0 := K_f.out.cell 0
    have cK_f_1 := K_f.out.cell 1
    simp at cK_f_0 cK_f_1
    have zK_f := K_f.out.lt
    have cK_x_0 := K_x.out.cell 0
    have cK_x_1 := K_x.out.cell 1
    simp at cK_x_0 cK_x_1
    have zK_x := K_x.out.lt
    clear GP SP
    go_wp2_with fail
    refine (refused_any _ _ _ _ _ _ xss rs vars _ (G.out.keep (below_new _ _)) (HV.out.keep (below_new _ _)) v0 v1 hn4 hm3 HL0.out HRS.out z HZZ).mono ?_
    rintro e w7 ⟨rfl, hb7⟩
    obtain ⟨K_y0, B_w7, l_w7⟩ := blk1 hb7
    replace G := Lib.hid (G.out.keep B_w7)
    replace HV := Lib.hid (HV.out.keep B_w7)
    replace K_c := Lib.hid (K_c.out.keep B_w7)
    replace K_f := Lib.hid (K_f.out.keep B_w7)
    replace K_x := Lib.hid (K_x.out.keep B_w7)
    replace HB := Lib.hid (below_next HB.out B_w7)
    have K_y := Lib.hid K_y0
    clear hb7 B_w7 K_y0
    clear cK_c_0 cK_c_1 zK_c cK_f_0 cK_f_1 zK_f cK_x_0 cK_x_1 zK_x
    have cK_c_0 := K_c.out.cell 0
    have cK_c_1 := K_c.out.cell 1
    simp at cK_c_0 cK_c_1
    have zK_c := K_c.out.lt
    have cK_f_0 := K_f.out.cell 0
    have cK_f_1 := K_f.out.cell 1
    simp at cK_f_0 cK_f_1
    have zK_f := K_f.out.lt
    have cK_x_0 := K_x.out.cell 0
    have cK_x_1 := K_x.out.cell 1
    simp at cK_x_0 cK_x_1
    have zK_x := K_x.out.lt
    have cK_y_0 := K_y.out.cell 0
    have cK_y_1 := K_y.out.cell 1
    simp at cK_y_0 cK_y_1
    have zK_y := K_y.out.lt
    go_wp2_with fail
    go_ret
    exact ⟨rfl, HB.out⟩
end Go.Proofs.Ytplbiepfdfoglaa
