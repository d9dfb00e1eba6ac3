/- The walk of CheckSound: it returns true. (Printed by wip/tools/checklaws.py.) -/
import Derived.Test.YtplbiepfdfoglaaAgainst
import Derived.Test.YtplbiepfdfoglaaHeavy
import Derived.Test.YtplbiepfdfoglaaSatR
namespace Go.Proofs.Ytplbiepfdfoglaa
open Go.RowKit
set_option linter.unusedSimpArgs false

theorem whyS_ok {vars : Int} {xss : List (List Int)} {rs : List (Int × List Int)} {z r2 : Int} (h : whyS vars xss rs = (z, 0, r2)) : (stepsR vars xss rs).1 = 0 ∧ whyF vars rs.length xss rs 0 = z ∧ r2 = 0 := by
  rw [whyS] at h
  by_cases h1 : (stepsR vars xss rs).1 ≠ 0
  · rw [if_pos h1] at h; exfalso; apply h1; rw [(Prod.mk.inj h).2]
  · rw [if_neg h1] at h
    obtain ⟨h2, h3⟩ := Prod.mk.inj h
    exact ⟨by simpa using h1, h2, (Prod.mk.inj h3).2.symm⟩

set_option maxHeartbeats 8000000 in
set_option maxRecDepth 100000 in
theorem checkSound_walk {vars : Int} {A B C : Option Addr} {n c m d p f : Nat} {xss : List (List Int)} {rs : List (Int × List Int)} {a : List Bool} (w : World) (hv : I64 vars) (h : Grid w A n c xss) (h' : Steps w B m d rs) (ha : Bools w C p f a) :
    Calls Try.prog 5 #[.agg #[.int .i64 vars, .slice A n c], .slice B m d, .slice C p f] w fun e w' => e = .returned (.bool true) ∧ Below w.heap.size w w' := by
  have hbd := h.bd
  have hbd' := h'.bd
  have hlen := Lib.hid h.len
  have hlv := Lib.hid h'.len
  have G := Lib.hid h
  have HV := Lib.hid h'
  have hn63 : n ≤ 9223372036854775807 := by omega
  obtain ⟨hvy, hhv⟩ : ∃ r, Hid ((decide (40 < vars) || decide (60 < (n : Int))) = r) := ⟨_, rfl⟩
  obtain ⟨z, r1, r2, hz⟩ : ∃ z r1 r2, Hid (whyS vars xss rs = (z, r1, r2)) := ⟨_, _, _, rfl⟩
  have hbda := ha.bd
  have HA := Lib.hid ha
  clear h h' ha
  cases hvy
  rotate_left
  · go_enter Try.func5, Try.ntmps5
    go_wp2_with fail
    refine (heavy_any _ _ _ _ _ hn63 _ hhv).mono ?_
    rintro e w1 ⟨rfl, hb1⟩
    obtain ⟨K_c0, B_w1, l_w1⟩ := blk1 hb1
    replace G := Lib.hid (G.out.keep B_w1)
    replace HV := Lib.hid (HV.out.keep B_w1)
    replace HA := Lib.hid (HA.out.keep B_w1)
    have HB := Lib.hid B_w1
    have K_c := Lib.hid K_c0
    clear hb1 B_w1 K_c0
    have cK_c_0 := K_c.out.cell 0
    have cK_c_1 := K_c.out.cell 1
    simp at cK_c_0 cK_c_1
    have zK_c := K_c.out.lt
    go_wp2_with fail
    go_ret
    exact ⟨rfl, HB.out⟩
  by_cases hm8 : 80 < m
  · have dm : decide ((80 : Int) < (m : Int)) = true := by simp; omega
    go_enter Try.func5, Try.ntmps5
    go_wp2_with fail
    refine (heavy_any _ _ _ _ _ hn63 _ hhv).mono ?_
    rintro e w1 ⟨rfl, hb1⟩
    obtain ⟨K_c0, B_w1, l_w1⟩ := blk1 hb1
    replace G := Lib.hid (G.out.keep B_w1)
    replace HV := Lib.hid (HV.out.keep B_w1)
    replace HA := Lib.hid (HA.out.keep B_w1)
    have HB := Lib.hid B_w1
    have K_c := Lib.hid K_c0
    clear hb1 B_w1 K_c0
    have cK_c_0 := K_c.out.cell 0
    have cK_c_1 := K_c.out.cell 1
    simp at cK_c_0 cK_c_1
    have zK_c := K_c.out.lt
    go_wp2_with fail
    go_ret
    exact ⟨rfl, HB.out⟩
  have dm : decide ((80 : Int) < (m : Int)) = false := by simp; omega
  obtain ⟨q, hq⟩ : ∃ q, Hid ((decide (r1 = 0) && decide (z = -1)) = q) := ⟨_, rfl⟩
  by_cases hr1 : r1 = 0
  rotate_left
  · have d1 : (r1 != 0) = true := by simpa using hr1
    obtain rfl : false = q := by rw [← hq.out]; simp [hr1]
    go_enter Try.func5, Try.ntmps5
    go_wp2_with fail
    refine (heavy_any _ _ _ _ _ hn63 _ hhv).mono ?_
    rintro e w1 ⟨rfl, hb1⟩
    obtain ⟨K_c0, B_w1, l_w1⟩ := blk1 hb1
    replace G := Lib.hid (G.out.keep B_w1)
    replace HV := Lib.hid (HV.out.keep B_w1)
    replace HA := Lib.hid (HA.out.keep B_w1)
    have HB := Lib.hid B_w1
    have K_c := Lib.hid K_c0
    clear hb1 B_w1 K_c0
    have cK_c_0 := K_c.out.cell 0
    have cK_c_1 := K_c.out.cell 1
    simp at cK_c_0 cK_c_1
    have zK_c := K_c.out.lt
    go_wp2_with fail
    refine (take_any _ _ _ _ _ _ xss rs vars _ G.out hv HV.out z r1 r2 hz false hq).mono ?_
    rintro e w2 ⟨rfl, hb2⟩
    have B_w2 := hb2
    replace G := Lib.hid (G.out.keep B_w2)
    replace HV := Lib.hid (HV.out.keep B_w2)
    replace HA := Lib.hid (HA.out.keep B_w2)
    replace K_c := Lib.hid (K_c.out.keep B_w2)
    replace HB := Lib.hid (below_next HB.out B_w2)
    clear hb2 B_w2
    clear cK_c_0 cK_c_1 zK_c
    have cK_c_0 := K_c.out.cell 0
    have cK_c_1 := K_c.out.cell 1
    simp at cK_c_0 cK_c_1
    have zK_c := K_c.out.lt
    go_wp2_with fail
    refine (against_any _).mono ?_
    rintro e w3 ⟨A5, n5, c5, rfl, hG5, hb3⟩
    obtain ⟨K_f0, B_w3, l_w3⟩ := blk1 hb3
    replace G := Lib.hid (G.out.keep B_w3)
    replace HV := Lib.hid (HV.out.keep B_w3)
    replace HA := Lib.hid (HA.out.keep B_w3)
    replace K_c := Lib.hid (K_c.out.keep B_w3)
    replace HB := Lib.hid (below_next HB.out B_w3)
    have K_f := Lib.hid K_f0
    clear hb3 B_w3 K_f0
    clear cK_c_0 cK_c_1 zK_c
    have cK_c_0 := K_c.out.cell 0
    have cK_c_1 := K_c.out.cell 1
    simp at cK_c_0 cK_c_1
    have zK_c := K_c.out.lt
    have cK_f_0 := K_f.out.cell 0
    have cK_f_1 := K_f.out.cell 1
    simp at cK_f_0 cK_f_1
    have zK_f := K_f.out.lt
    have GP := Lib.hid hG5
    clear hG5
    go_wp2_with fail
    refine (end_any _).mono ?_
    rintro e w4 ⟨A6, n6, c6, rfl, hS6, hb4⟩
    have B_w4 := hb4
    replace G := Lib.hid (G.out.keep B_w4)
    replace HV := Lib.hid (HV.out.keep B_w4)
    replace HA := Lib.hid (HA.out.keep B_w4)
    replace GP := Lib.hid (GP.out.keep B_w4)
    replace K_c := Lib.hid (K_c.out.keep B_w4)
    replace K_f := Lib.hid (K_f.out.keep B_w4)
    replace HB := Lib.hid (below_next HB.out B_w4)
    clear hb4 B_w4
    clear cK_c_0 cK_c_1 zK_c cK_f_0 cK_f_1 zK_f
    have cK_c_0 := K_c.out.cell 0
    have cK_c_1 := K_c.out.cell 1
    simp at cK_c_0 cK_c_1
    have zK_c := K_c.out.lt
    have cK_f_0 := K_f.out.cell 0
    have cK_f_1 := K_f.out.cell 1
    simp at cK_f_0 cK_f_1
    have zK_f := K_f.out.lt
    have SP := Lib.hid hS6
    clear hS6
    go_wp2_with fail
    refine (take_any _ _ _ _ _ _ [[1, 2], [-1], [-2]] [(1, [])] 2 _ GP.out ⟨by omega, by omega⟩ SP.out (-1) 0 0 why_end true (by show _ = _; rfl)).mono ?_
    rintro e w5 ⟨rfl, hb5⟩
    have B_w5 := hb5
    replace G := Lib.hid (G.out.keep B_w5)
    replace HV := Lib.hid (HV.out.keep B_w5)
    replace HA := Lib.hid (HA.out.keep B_w5)
    replace GP := Lib.hid (GP.out.keep B_w5)
    replace SP := Lib.hid (SP.out.keep B_w5)
    replace K_c := Lib.hid (K_c.out.keep B_w5)
    replace K_f := Lib.hid (K_f.out.keep B_w5)
    replace HB := Lib.hid (below_next HB.out B_w5)
    clear hb5 B_w5
    clear cK_c_0 cK_c_1 zK_c cK_f_0 cK_f_1 zK_f
    have cK_c_0 := K_c.out.cell 0
    have cK_c_1 := K_c.out.cell 1
    simp at cK_c_0 cK_c_1
    have zK_c := K_c.out.lt
    have cK_f_0 := K_f.out.cell 0
    have cK_f_1 := K_f.out.cell 1
    simp at cK_f_0 cK_f_1
    have zK_f := K_f.out.lt
    clear GP SP
    go_wp2_with fail
    go_ret
    exact ⟨rfl, below_next HB.out (below_new _ _)⟩
  · subst hr1
    obtain ⟨hs, hw, rfl⟩ := whyS_ok hz.out
    cases q
    · go_enter Try.func5, Try.ntmps5
      go_wp2_with fail
      refine (heavy_any _ _ _ _ _ hn63 _ hhv).mono ?_
      rintro e w1 ⟨rfl, hb1⟩
      obtain ⟨K_c0, B_w1, l_w1⟩ := blk1 hb1
      replace G := Lib.hid (G.out.keep B_w1)
      replace HV := Lib.hid (HV.out.keep B_w1)
      replace HA := Lib.hid (HA.out.keep B_w1)
      have HB := Lib.hid B_w1
      have K_c := Lib.hid K_c0
      clear hb1 B_w1 K_c0
      have cK_c_0 := K_c.out.cell 0
      have cK_c_1 := K_c.out.cell 1
      simp at cK_c_0 cK_c_1
      have zK_c := K_c.out.lt
      go_wp2_with fail
      refine (take_any _ _ _ _ _ _ xss rs vars _ G.out hv HV.out z 0 0 hz false hq).mono ?_
      rintro e w2 ⟨rfl, hb2⟩
      have B_w2 := hb2
      replace G := Lib.hid (G.out.keep B_w2)
      replace HV := Lib.hid (HV.out.keep B_w2)
      replace HA := Lib.hid (HA.out.keep B_w2)
      replace K_c := Lib.hid (K_c.out.keep B_w2)
      replace HB := Lib.hid (below_next HB.out B_w2)
      clear hb2 B_w2
      clear cK_c_0 cK_c_1 zK_c
      have cK_c_0 := K_c.out.cell 0
      have cK_c_1 := K_c.out.cell 1
      simp at cK_c_0 cK_c_1
      have zK_c := K_c.out.lt
      go_wp2_with fail
      refine (against_any _).mono ?_
      rintro e w3 ⟨A5, n5, c5, rfl, hG5, hb3⟩
      obtain ⟨K_f0, B_w3, l_w3⟩ := blk1 hb3
      replace G := Lib.hid (G.out.keep B_w3)
      replace HV := Lib.hid (HV.out.keep B_w3)
      replace HA := Lib.hid (HA.out.keep B_w3)
      replace K_c := Lib.hid (K_c.out.keep B_w3)
      replace HB := Lib.hid (below_next HB.out B_w3)
      have K_f := Lib.hid K_f0
      clear hb3 B_w3 K_f0
      clear cK_c_0 cK_c_1 zK_c
      have cK_c_0 := K_c.out.cell 0
      have cK_c_1 := K_c.out.cell 1
      simp at cK_c_0 cK_c_1
      have zK_c := K_c.out.lt
      have cK_f_0 := K_f.out.cell 0
      have cK_f_1 := K_f.out.cell 1
      simp at cK_f_0 cK_f_1
      have zK_f := K_f.out.lt
      have GP := Lib.hid hG5
      clear hG5
      go_wp2_with fail
      refine (end_any _).mono ?_
      rintro e w4 ⟨A6, n6, c6, rfl, hS6, hb4⟩
      have B_w4 := hb4
      replace G := Lib.hid (G.out.keep B_w4)
      replace HV := Lib.hid (HV.out.keep B_w4)
      replace HA := Lib.hid (HA.out.keep B_w4)
      replace GP := Lib.hid (GP.out.keep B_w4)
      replace K_c := Lib.hid (K_c.out.keep B_w4)
      replace K_f := Lib.hid (K_f.out.keep B_w4)
      replace HB := Lib.hid (below_next HB.out B_w4)
      clear hb4 B_w4
      clear cK_c_0 cK_c_1 zK_c cK_f_0 cK_f_1 zK_f
      have cK_c_0 := K_c.out.cell 0
      have cK_c_1 := K_c.out.cell 1
      simp at cK_c_0 cK_c_1
      have zK_c := K_c.out.lt
      have cK_f_0 := K_f.out.cell 0
      have cK_f_1 := K_f.out.cell 1
      simp at cK_f_0 cK_f_1
      have zK_f := K_f.out.lt
      have SP := Lib.hid hS6
      clear hS6
      go_wp2_with fail
      refine (take_any _ _ _ _ _ _ [[1, 2], [-1], [-2]] [(1, [])] 2 _ GP.out ⟨by omega, by omega⟩ SP.out (-1) 0 0 why_end true (by show _ = _; rfl)).mono ?_
      rintro e w5 ⟨rfl, hb5⟩
      have B_w5 := hb5
      replace G := Lib.hid (G.out.keep B_w5)
      replace HV := Lib.hid (HV.out.keep B_w5)
      replace HA := Lib.hid (HA.out.keep B_w5)
      replace GP := Lib.hid (GP.out.keep B_w5)
      replace SP := Lib.hid (SP.out.keep B_w5)
      replace K_c := Lib.hid (K_c.out.keep B_w5)
      replace K_f := Lib.hid (K_f.out.keep B_w5)
      replace HB := Lib.hid (below_next HB.out B_w5)
      clear hb5 B_w5
      clear cK_c_0 cK_c_1 zK_c cK_f_0 cK_f_1 zK_f
      have cK_c_0 := K_c.out.cell 0
      have cK_c_1 := K_c.out.cell 1
      simp at cK_c_0 cK_c_1
      have zK_c := K_c.out.lt
      have cK_f_0 := K_f.out.cell 0
      have cK_f_1 := K_f.out.cell 1
      simp at cK_f_0 cK_f_1
      have zK_f := K_f.out.lt
      clear GP SP
      go_wp2_with fail
      go_ret
      exact ⟨rfl, below_next HB.out (below_new _ _)⟩
    · have hz1 : z = -1 := by have := hq.out; simpa using this
      by_cases hpv : (p : Int) ≠ vars
      · have d2 : ((p : Int) != vars) = true := by simpa using hpv
        go_enter Try.func5, Try.ntmps5
        go_wp2_with fail
        refine (heavy_any _ _ _ _ _ hn63 _ hhv).mono ?_
        rintro e w1 ⟨rfl, hb1⟩
        obtain ⟨K_c0, B_w1, l_w1⟩ := blk1 hb1
        replace G := Lib.hid (G.out.keep B_w1)
        replace HV := Lib.hid (HV.out.keep B_w1)
        replace HA := Lib.hid (HA.out.keep B_w1)
        have HB := Lib.hid B_w1
        have K_c := Lib.hid K_c0
        clear hb1 B_w1 K_c0
        have cK_c_0 := K_c.out.cell 0
        have cK_c_1 := K_c.out.cell 1
        simp at cK_c_0 cK_c_1
        have zK_c := K_c.out.lt
        go_wp2_with fail
        refine (take_any _ _ _ _ _ _ xss rs vars _ G.out hv HV.out z 0 0 hz true hq).mono ?_
        rintro e w2 ⟨rfl, hb2⟩
        have B_w2 := hb2
        replace G := Lib.hid (G.out.keep B_w2)
        replace HV := Lib.hid (HV.out.keep B_w2)
        replace HA := Lib.hid (HA.out.keep B_w2)
        replace K_c := Lib.hid (K_c.out.keep B_w2)
        replace HB := Lib.hid (below_next HB.out B_w2)
        clear hb2 B_w2
        clear cK_c_0 cK_c_1 zK_c
        have cK_c_0 := K_c.out.cell 0
        have cK_c_1 := K_c.out.cell 1
        simp at cK_c_0 cK_c_1
        have zK_c := K_c.out.lt
        go_wp2_with fail
        refine (against_any _).mono ?_
        rintro e w3 ⟨A5, n5, c5, rfl, hG5, hb3⟩
        obtain ⟨K_f0, B_w3, l_w3⟩ := blk1 hb3
        replace G := Lib.hid (G.out.keep B_w3)
        replace HV := Lib.hid (HV.out.keep B_w3)
        replace HA := Lib.hid (HA.out.keep B_w3)
        replace K_c := Lib.hid (K_c.out.keep B_w3)
        replace HB := Lib.hid (below_next HB.out B_w3)
        have K_f := Lib.hid K_f0
        clear hb3 B_w3 K_f0
        clear cK_c_0 cK_c_1 zK_c
        have cK_c_0 := K_c.out.cell 0
        have cK_c_1 := K_c.out.cell 1
        simp at cK_c_0 cK_c_1
        have zK_c := K_c.out.lt
        have cK_f_0 := K_f.out.cell 0
        have cK_f_1 := K_f.out.cell 1
        simp at cK_f_0 cK_f_1
        have zK_f := K_f.out.lt
        have GP := Lib.hid hG5
        clear hG5
        go_wp2_with fail
        refine (end_any _).mono ?_
        rintro e w4 ⟨A6, n6, c6, rfl, hS6, hb4⟩
        have B_w4 := hb4
        replace G := Lib.hid (G.out.keep B_w4)
        replace HV := Lib.hid (HV.out.keep B_w4)
        replace HA := Lib.hid (HA.out.keep B_w4)
        replace GP := Lib.hid (GP.out.keep B_w4)
        replace K_c := Lib.hid (K_c.out.keep B_w4)
        replace K_f := Lib.hid (K_f.out.keep B_w4)
        replace HB := Lib.hid (below_next HB.out B_w4)
        clear hb4 B_w4
        clear cK_c_0 cK_c_1 zK_c cK_f_0 cK_f_1 zK_f
        have cK_c_0 := K_c.out.cell 0
        have cK_c_1 := K_c.out.cell 1
        simp at cK_c_0 cK_c_1
        have zK_c := K_c.out.lt
        have cK_f_0 := K_f.out.cell 0
        have cK_f_1 := K_f.out.cell 1
        simp at cK_f_0 cK_f_1
        have zK_f := K_f.out.lt
        have SP := Lib.hid hS6
        clear hS6
        go_wp2_with fail
        refine (take_any _ _ _ _ _ _ [[1, 2], [-1], [-2]] [(1, [])] 2 _ GP.out ⟨by omega, by omega⟩ SP.out (-1) 0 0 why_end true (by show _ = _; rfl)).mono ?_
        rintro e w5 ⟨rfl, hb5⟩
        have B_w5 := hb5
        replace G := Lib.hid (G.out.keep B_w5)
        replace HV := Lib.hid (HV.out.keep B_w5)
        replace HA := Lib.hid (HA.out.keep B_w5)
        replace GP := Lib.hid (GP.out.keep B_w5)
        replace SP := Lib.hid (SP.out.keep B_w5)
        replace K_c := Lib.hid (K_c.out.keep B_w5)
        replace K_f := Lib.hid (K_f.out.keep B_w5)
        replace HB := Lib.hid (below_next HB.out B_w5)
        clear hb5 B_w5
        clear cK_c_0 cK_c_1 zK_c cK_f_0 cK_f_1 zK_f
        have cK_c_0 := K_c.out.cell 0
        have cK_c_1 := K_c.out.cell 1
        simp at cK_c_0 cK_c_1
        have zK_c := K_c.out.lt
        have cK_f_0 := K_f.out.cell 0
        have cK_f_1 := K_f.out.cell 1
        simp at cK_f_0 cK_f_1
        have zK_f := K_f.out.lt
        clear GP SP
        go_wp2_with fail
        go_ret
        exact ⟨rfl, below_next HB.out (below_new _ _)⟩
      · have hpv' : (p : Int) = vars := by omega
        have d2 : ((p : Int) != vars) = false := by simpa using hpv
        obtain ⟨_, hck, _, hrs⟩ := stepsR_ok hs
        obtain ⟨_, v0, v1, _, hrows⟩ := checkC_ok hck
        have HIX : Hid (∀ x ∈ xss, InLits p x) := fun x hx => (hrows x hx).2.inLits hpv'
        have hal : Hid (allB xss a = false) := by
          show _ = _
          cases e : allB xss a
          · rfl
          · exact absurd (hw.trans hz1) (why_sound rs xss 0 (fun x hx => (hrows x hx).2) hrs e)
        clear hrows hpv hw hs hrs hck
        have HPV := Lib.hid hpv'
        clear hpv'
        go_enter Try.func5, Try.ntmps5
        go_wp2_with fail
        refine (heavy_any _ _ _ _ _ hn63 _ hhv).mono ?_
        rintro e w1 ⟨rfl, hb1⟩
        obtain ⟨K_c0, B_w1, l_w1⟩ := blk1 hb1
        replace G := Lib.hid (G.out.keep B_w1)
        replace HV := Lib.hid (HV.out.keep B_w1)
        replace HA := Lib.hid (HA.out.keep B_w1)
        have HB := Lib.hid B_w1
        have K_c := Lib.hid K_c0
        clear hb1 B_w1 K_c0
        have cK_c_0 := K_c.out.cell 0
        have cK_c_1 := K_c.out.cell 1
        simp at cK_c_0 cK_c_1
        have zK_c := K_c.out.lt
        go_wp2_with fail
        refine (take_any _ _ _ _ _ _ xss rs vars _ G.out hv HV.out z 0 0 hz true hq).mono ?_
        rintro e w2 ⟨rfl, hb2⟩
        have B_w2 := hb2
        replace G := Lib.hid (G.out.keep B_w2)
        replace HV := Lib.hid (HV.out.keep B_w2)
        replace HA := Lib.hid (HA.out.keep B_w2)
        replace K_c := Lib.hid (K_c.out.keep B_w2)
        replace HB := Lib.hid (below_next HB.out B_w2)
        clear hb2 B_w2
        clear cK_c_0 cK_c_1 zK_c
        have cK_c_0 := K_c.out.cell 0
        have cK_c_1 := K_c.out.cell 1
        simp at cK_c_0 cK_c_1
        have zK_c := K_c.out.lt
        go_wp2_with fail
        refine (against_any _).mono ?_
        rintro e w3 ⟨A5, n5, c5, rfl, hG5, hb3⟩
        obtain ⟨K_f0, B_w3, l_w3⟩ := blk1 hb3
        replace G := Lib.hid (G.out.keep B_w3)
        replace HV := Lib.hid (HV.out.keep B_w3)
        replace HA := Lib.hid (HA.out.keep B_w3)
        replace K_c := Lib.hid (K_c.out.keep B_w3)
        replace HB := Lib.hid (below_next HB.out B_w3)
        have K_f := Lib.hid K_f0
        clear hb3 B_w3 K_f0
        clear cK_c_0 cK_c_1 zK_c
        have cK_c_0 := K_c.out.cell 0
        have cK_c_1 := K_c.out.cell 1
        simp at cK_c_0 cK_c_1
        have zK_c := K_c.out.lt
        have cK_f_0 := K_f.out.cell 0
        have cK_f_1 := K_f.out.cell 1
        simp at cK_f_0 cK_f_1
        have zK_f := K_f.out.lt
        have GP := Lib.hid hG5
        clear hG5
        go_wp2_with fail
        refine (end_any _).mono ?_
        rintro e w4 ⟨A6, n6, c6, rfl, hS6, hb4⟩
        have B_w4 := hb4
        replace G := Lib.hid (G.out.keep B_w4)
        replace HV := Lib.hid (HV.out.keep B_w4)
        replace HA := Lib.hid (HA.out.keep B_w4)
        replace GP := Lib.hid (GP.out.keep B_w4)
        replace K_c := Lib.hid (K_c.out.keep B_w4)
        replace K_f := Lib.hid (K_f.out.keep B_w4)
        replace HB := Lib.hid (below_next HB.out B_w4)
        clear hb4 B_w4
        clear cK_c_0 cK_c_1 zK_c cK_f_0 cK_f_1 zK_f
        have cK_c_0 := K_c.out.cell 0
        have cK_c_1 := K_c.out.cell 1
        simp at cK_c_0 cK_c_1
        have zK_c := K_c.out.lt
        have cK_f_0 := K_f.out.cell 0
        have cK_f_1 := K_f.out.cell 1
        simp at cK_f_0 cK_f_1
        have zK_f := K_f.out.lt
        have SP := Lib.hid hS6
        clear hS6
        go_wp2_with fail
        refine (take_any _ _ _ _ _ _ [[1, 2], [-1], [-2]] [(1, [])] 2 _ GP.out ⟨by omega, by omega⟩ SP.out (-1) 0 0 why_end true (by show _ = _; rfl)).mono ?_
        rintro e w5 ⟨rfl, hb5⟩
        have B_w5 := hb5
        replace G := Lib.hid (G.out.keep B_w5)
        replace HV := Lib.hid (HV.out.keep B_w5)
        replace HA := Lib.hid (HA.out.keep B_w5)
        replace GP := Lib.hid (GP.out.keep B_w5)
        replace SP := Lib.hid (SP.out.keep B_w5)
        replace K_c := Lib.hid (K_c.out.keep B_w5)
        replace K_f := Lib.hid (K_f.out.keep B_w5)
        replace HB := Lib.hid (below_next HB.out B_w5)
        clear hb5 B_w5
        clear cK_c_0 cK_c_1 zK_c cK_f_0 cK_f_1 zK_f
        have cK_c_0 := K_c.out.cell 0
        have cK_c_1 := K_c.out.cell 1
        simp at cK_c_0 cK_c_1
        have zK_c := K_c.out.lt
        have cK_f_0 := K_f.out.cell 0
        have cK_f_1 := K_f.out.cell 1
        simp at cK_f_0 cK_f_1
        have zK_f := K_f.out.lt
        clear GP SP
        go_wp2_with fail
        refine ((all_ref _ _ _ _ _ _ xss a _ (G.out.keep (below_new _ _)) (HA.out.keep (below_new _ _)) HIX.out false hal).mono (fun _ _ hh => hh.v)).mono ?_
        rintro e w6 ⟨rfl, hb6⟩
        have HB6 := Lib.hid (below_next (below_next HB.out (below_new _ _)) hb6)
        clear hb6
        go_wp2_with fail
        go_ret
        exact ⟨rfl, HB6.out⟩
end Go.Proofs.Ytplbiepfdfoglaa
