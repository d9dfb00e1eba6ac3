/- The walk of CheckMore: it returns true. (Printed by wip/tools/checkmore.py.) -/
import Derived.Test.YtplbiepfdfoglaaAgainst
import Derived.Test.YtplbiepfdfoglaaHeavy
import Derived.Test.YtplbiepfdfoglaaTail
import Derived.Deep.RegionHeld3
namespace Go.Proofs.Ytplbiepfdfoglaa
open Go.RowKit
set_option linter.unusedSimpArgs false

theorem threeT {P : Program} {ops : Array Oper} {Q : Exit → Act → World → Prop} {md : Region.Mode} {S : World → Prop} {ts : List Nat} {i j k : Nat} {o u x : Oper} {fuel : Nat} {listed : Array Bool} {a : Act} {w : World} (hr : Region.ready md ops listed = [i, j, k]) (hi : ops[i]? = some o) (hw : Region.wanted o (yielded ops a.tmps) = true) (hj : ops[j]? = some u) (hu : Region.wanted u (yielded ops a.tmps) = true) (hk : ops[k]? = some x) (hx : Region.wanted x (yielded ops a.tmps) = true)
    (h : ∀ K : Act → World → Prop, (∀ a' w', (noT ts (listed.setIfInBounds i true) = true → S w') → wpAnyT P md ops Q S ts fuel (listed.setIfInBounds i true) a' w' → K a' w') → o.wp P a w K Q)
    (h' : ∀ K : Act → World → Prop, (∀ a' w', (noT ts (listed.setIfInBounds j true) = true → S w') → wpAnyT P md ops Q S ts fuel (listed.setIfInBounds j true) a' w' → K a' w') → u.wp P a w K Q)
    (h'' : ∀ K : Act → World → Prop, (∀ a' w', (noT ts (listed.setIfInBounds k true) = true → S w') → wpAnyT P md ops Q S ts fuel (listed.setIfInBounds k true) a' w' → K a' w') → x.wp P a w K Q) : wpAnyT P md ops Q S ts (fuel + 1) listed a w :=
  allT hr (by simp) fun l hl => by
    simp at hl
    rcases hl with rfl | rfl | rfl
    · unfold wpOp
      simp only [hi, hw, if_true]
      exact .inl (h _ fun _ _ h1 h2 => ⟨h1, h2⟩)
    · unfold wpOp
      simp only [hj, hu, if_true]
      exact .inl (h' _ fun _ _ h1 h2 => ⟨h1, h2⟩)
    · unfold wpOp
      simp only [hk, hx, if_true]
      exact .inl (h'' _ fun _ _ h1 h2 => ⟨h1, h2⟩)
theorem row_ne_cnf : (41 : TypeId) ≠ 24 := by decide
/-- Its cells are slices that read as the rows. -/
def RowsL (w : World) (vs : List Value) (xss : List (List Int)) : Prop := vs.length = xss.length ∧ ∀ (k : Nat) (v : Value), vs[k]? = some v → ∃ (A' : Option Addr) (n' c' : Nat) (xs : List Int), v = Value.slice A' n' c' ∧ xss[k]? = some xs ∧ Ints w A' n' c' xs
theorem rowsL_one {w : World} {vs : List Value} {xss : List (List Int)} (h : RowsL w vs xss) : ∀ u ∈ vs, u.oneCell' = true := fun u hu => by
  obtain ⟨k, hk, rfl⟩ := List.getElem_of_mem hu
  obtain ⟨A', n', c', xs, e1, _⟩ := h.2 k _ (List.getElem?_eq_getElem hk)
  rw [e1]
  rfl
theorem run_fault0 (w : World) (x0 x1 : Value) : (Instr.field 28 (.agg #[x0, x1]) 0).run Try.prog w = .ok x0 w := by kernel_rfl
theorem held4 {W wa wb : World} {a0 a1 a2 a3 : Addr} {v0 v1 v2 v3 : Value} (h : (wa.cell? a0 = some v0 ∧ wa.cell? a1 = some v1 ∧ wa.cell? a2 = some v2 ∧ wa.cell? a3 = some v3) ∧ Below W.heap.size W wa) (hb : Below wa.heap.size wa wb) : (wb.cell? a0 = some v0 ∧ wb.cell? a1 = some v1 ∧ wb.cell? a2 = some v2 ∧ wb.cell? a3 = some v3) ∧ Below W.heap.size W wb := ⟨⟨keepBox hb h.1.1, keepBox hb h.1.2.1, keepBox hb h.1.2.2.1, keepBox hb h.1.2.2.2⟩, below_next h.2 hb⟩
theorem own_box {e t : TypeId} {w : World} {base n c g : Nat} {A : Option Addr} {xs : List Value} {cs : Array Value} (h : Own e w base A n c xs) (hb : Blk w g t cs) (hne : e ≠ t) (x y : Value) : Own e ((w.setCell ⟨g, 0, none⟩ x).setCell ⟨g, 1, none⟩ y) base A n c xs := by
  have h1 := h.kept (grown_setCell w ⟨g, 0, none⟩ x) (h.ne_typed (Typed.of_blk hb) hne)
  exact h1.kept (grown_setCell _ ⟨g, 1, none⟩ y) (h1.ne_typed (Typed.of_blk (hb.set_ 0 x)) hne)
theorem own_base {e : TypeId} {w : World} {base n c k : Nat} {A : Option Addr} {xs : List Value} (h : Own e w base A n c xs) (hk : blockOf A = some k) : base ≤ k := by
  rcases h.form with ⟨rfl, _⟩ | ⟨g', _, rfl, hg', _⟩
  · cases hk
  · cases hk; exact hg'
theorem Sl.kept' {w w' : World} {b n c : Nat} {xs : List Value} {row : Option Nat} (h : Sl w (some ⟨b, 0, none⟩) n c xs) (hg : w.grownBy w' row) (hne : row ≠ some b) : Sl w' (some ⟨b, 0, none⟩) n c xs :=
  h.kept hg (.inr fun e => hne (by simpa [blockOf] using e.symm))
theorem fin_grid {wr W : World} {A R C : Option Addr} {n c p f cR base : Nat} {e : TypeId} {xss : List (List Int)} {cl : List Int} {vs : List Value} (_h : Grid wr A n c xss) (ha : Ints wr C p f cl) (hb : Below wr.heap.size wr W) (hv : RowsL wr vs xss) (ho : Own e W base R (n + 1) cR (vs ++ [.slice C p f])) : Grid W R (n + 1) cR (xss ++ [cl]) := by
  refine ⟨_, ho.sl, by simp [hv.1], fun k v hk => ?_⟩
  have hl := hv.1
  rcases Nat.lt_or_ge k vs.length with h1 | h1
  · rw [List.getElem?_append_left h1] at hk
    obtain ⟨A', n', c', xs, e1, hx, hi⟩ := hv.2 k v hk
    exact ⟨A', n', c', xs, e1, by rw [List.getElem?_append_left (by omega)]; exact hx, hi.keep hb⟩
  · rw [List.getElem?_append_right h1] at hk
    have hk0 : k - vs.length = 0 := by
      rcases Nat.eq_zero_or_pos (k - vs.length) with h0 | h0
      · exact h0
      · rw [List.getElem?_eq_none (by simp; omega)] at hk; cases hk
    rw [hk0] at hk
    simp at hk
    subst hk
    exact ⟨C, p, f, cl, rfl, by rw [List.getElem?_append_right (by omega), show k - xss.length = 0 by omega]; rfl, ha.keep hb⟩
theorem whyS_ok {vars : Int} {xss : List (List Int)} {rs : List (Int × List Int)} {z r2 : Int} (h : whyS vars xss rs = (z, 0, r2)) : (stepsR vars xss rs).1 = 0 ∧ whyF vars rs.length xss rs 0 = z ∧ r2 = 0 := by
  rw [whyS] at h
  by_cases h1 : (stepsR vars xss rs).1 ≠ 0
  · rw [if_pos h1] at h; exfalso; apply h1; rw [(Prod.mk.inj h).2]
  · rw [if_neg h1] at h
    obtain ⟨h2, h3⟩ := Prod.mk.inj h
    exact ⟨by simpa using h1, h2, (Prod.mk.inj h3).2.symm⟩
/-- A clause more does no harm. -/
theorem whyS_more {vars : Int} {xss : List (List Int)} {rs : List (Int × List Int)} {cl : List Int} (hs : (stepsR vars xss rs).1 = 0) (hw : whyF vars rs.length xss rs 0 = -1) : (checkC vars (xss ++ [cl])).1 ≠ 0 ∧ whyS vars (xss ++ [cl]) rs = (0, checkC vars (xss ++ [cl])) ∨ checkC vars (xss ++ [cl]) = (0, 0) ∧ whyS vars (xss ++ [cl]) rs = (-1, 0, 0) := by
  by_cases h1 : (checkC vars (xss ++ [cl])).1 ≠ 0
  · have h2 : stepsR vars (xss ++ [cl]) rs = checkC vars (xss ++ [cl]) := by rw [stepsR, if_pos h1]
    exact .inl ⟨h1, by rw [whyS, h2, if_pos h1]⟩
  · have h1' : (checkC vars (xss ++ [cl])).1 = 0 := by simpa using h1
    obtain ⟨e0, hck, hm3, hrs⟩ := stepsR_ok hs
    obtain ⟨_, v0, v1, _, hrows⟩ := checkC_ok hck
    obtain ⟨e1, _, _, _, hrows2⟩ := checkC_ok h1'
    have h3 : stepsR vars (xss ++ [cl]) rs = (0, 0) := by
      have h4 : stepsR vars xss rs = wrongF vars rs 0 := by rw [stepsR, if_neg (by simpa using hck), if_neg (by omega)]
      rw [stepsR, if_neg h1, if_neg (by omega), ← h4, e0]
    refine .inr ⟨e1, ?_⟩
    rw [whyS, h3, if_neg (by simp)]
    rw [why_more v0 rs xss (xss ++ [cl]) [sortF cl] 0 (fun x hx => (hrows x hx).2) (fun x hx => (hrows2 x hx).2) hrs (by rw [List.map_append]; exact List.Perm.refl _) hw]

set_option maxHeartbeats 8000000 in
set_option maxRecDepth 100000 in
theorem checkMore_walk {vars : Int} {A B C : Option Addr} {n c m d p f : Nat} {xss : List (List Int)} {rs : List (Int × List Int)} {cl : List Int} (w : World) (hv : I64 vars) (h : Grid w A n c xss) (h' : Steps w B m d rs) (ha : Ints w C p f cl) :
    Calls Try.prog 6 #[.agg #[.int .i64 vars, .slice A n c], .slice B m d, .slice C p f] w fun e w' => e = .returned (.bool true) ∧ Below w.heap.size w w' := by
  have hbd := h.bd
  have hbd' := h'.bd
  have hlen := Lib.hid h.len
  have hlv := Lib.hid h'.len
  have G := Lib.hid h
  have HV := Lib.hid h'
  have hn63 : n ≤ 9223372036854775807 := by omega
  obtain ⟨hvy, hhv⟩ : ∃ r, Hid ((decide (40 < vars) || decide (60 < (n : Int))) = r) := ⟨_, rfl⟩
  obtain ⟨z, r1, r2, hz⟩ : ∃ z r1 r2, Hid (whyS vars xss rs = (z, r1, r2)) := ⟨_, _, _, rfl⟩
  have hbda := ha.bd
  have HA := Lib.hid ha
  clear h h' ha
  cases hvy
  rotate_left
  · go_enter Try.func6, Try.ntmps6
    go_wp2_with fail
    refine (heavy_any _ _ _ _ _ hn63 _ hhv).mono ?_
    rintro e w1 ⟨rfl, hb1⟩
    obtain ⟨K_c0, B_w1, l_w1⟩ := blk1 hb1
    replace G := Lib.hid (G.out.keep B_w1)
    replace HV := Lib.hid (HV.out.keep B_w1)
    replace HA := Lib.hid (HA.out.keep B_w1)
    have HB := Lib.hid B_w1
    have K_c := Lib.hid K_c0
    clear hb1 B_w1 K_c0
    have cK_c_0 := K_c.out.cell 0
    have cK_c_1 := K_c.out.cell 1
    simp at cK_c_0 cK_c_1
    have zK_c := K_c.out.lt
    go_wp2_with fail
    go_ret
    exact ⟨rfl, HB.out⟩
  by_cases hm8 : 80 < m
  · have dm : decide ((80 : Int) < (m : Int)) = true := by simp; omega
    go_enter Try.func6, Try.ntmps6
    go_wp2_with fail
    refine (heavy_any _ _ _ _ _ hn63 _ hhv).mono ?_
    rintro e w1 ⟨rfl, hb1⟩
    obtain ⟨K_c0, B_w1, l_w1⟩ := blk1 hb1
    replace G := Lib.hid (G.out.keep B_w1)
    replace HV := Lib.hid (HV.out.keep B_w1)
    replace HA := Lib.hid (HA.out.keep B_w1)
    have HB := Lib.hid B_w1
    have K_c := Lib.hid K_c0
    clear hb1 B_w1 K_c0
    have cK_c_0 := K_c.out.cell 0
    have cK_c_1 := K_c.out.cell 1
    simp at cK_c_0 cK_c_1
    have zK_c := K_c.out.lt
    go_wp2_with fail
    go_ret
    exact ⟨rfl, HB.out⟩
  have dm : decide ((80 : Int) < (m : Int)) = false := by simp; omega
  obtain ⟨q, hq⟩ : ∃ q, Hid ((decide (r1 = 0) && decide (z = -1)) = q) := ⟨_, rfl⟩
  by_cases hr1 : r1 = 0
  rotate_left
  · have d1 : (r1 != 0) = true := by simpa using hr1
    obtain rfl : false = q := by rw [← hq.out]; simp [hr1]
    go_enter Try.func6, Try.ntmps6
    go_wp2_with fail
    refine (heavy_any _ _ _ _ _ hn63 _ hhv).mono ?_
    rintro e w1 ⟨rfl, hb1⟩
    obtain ⟨K_c0, B_w1, l_w1⟩ := blk1 hb1
    replace G := Lib.hid (G.out.keep B_w1)
    replace HV := Lib.hid (HV.out.keep B_w1)
    replace HA := Lib.hid (HA.out.keep B_w1)
    have HB := Lib.hid B_w1
    have K_c := Lib.hid K_c0
    clear hb1 B_w1 K_c0
    have cK_c_0 := K_c.out.cell 0
    have cK_c_1 := K_c.out.cell 1
    simp at cK_c_0 cK_c_1
    have zK_c := K_c.out.lt
    go_wp2_with fail
    refine (take_any _ _ _ _ _ _ xss rs vars _ G.out hv HV.out z r1 r2 hz false hq).mono ?_
    rintro e w2 ⟨rfl, hb2⟩
    have B_w2 := hb2
    replace G := Lib.hid (G.out.keep B_w2)
    replace HV := Lib.hid (HV.out.keep B_w2)
    replace HA := Lib.hid (HA.out.keep B_w2)
    replace K_c := Lib.hid (K_c.out.keep B_w2)
    replace HB := Lib.hid (below_next HB.out B_w2)
    clear hb2 B_w2
    clear cK_c_0 cK_c_1 zK_c
    have cK_c_0 := K_c.out.cell 0
    have cK_c_1 := K_c.out.cell 1
    simp at cK_c_0 cK_c_1
    have zK_c := K_c.out.lt
    go_wp2_with fail
    refine (against_any _).mono ?_
    rintro e w3 ⟨A5, n5, c5, rfl, hG5, hb3⟩
    obtain ⟨K_f0, B_w3, l_w3⟩ := blk1 hb3
    replace G := Lib.hid (G.out.keep B_w3)
    replace HV := Lib.hid (HV.out.keep B_w3)
    replace HA := Lib.hid (HA.out.keep B_w3)
    replace K_c := Lib.hid (K_c.out.keep B_w3)
    replace HB := Lib.hid (below_next HB.out B_w3)
    have K_f := Lib.hid K_f0
    clear hb3 B_w3 K_f0
    clear cK_c_0 cK_c_1 zK_c
    have cK_c_0 := K_c.out.cell 0
    have cK_c_1 := K_c.out.cell 1
    simp at cK_c_0 cK_c_1
    have zK_c := K_c.out.lt
    have cK_f_0 := K_f.out.cell 0
    have cK_f_1 := K_f.out.cell 1
    simp at cK_f_0 cK_f_1
    have zK_f := K_f.out.lt
    have GP := Lib.hid hG5
    clear hG5
    go_wp2_with fail
    refine (end_any _).mono ?_
    rintro e w4 ⟨A6, n6, c6, rfl, hS6, hb4⟩
    have B_w4 := hb4
    replace G := Lib.hid (G.out.keep B_w4)
    replace HV := Lib.hid (HV.out.keep B_w4)
    replace HA := Lib.hid (HA.out.keep B_w4)
    replace GP := Lib.hid (GP.out.keep B_w4)
    replace K_c := Lib.hid (K_c.out.keep B_w4)
    replace K_f := Lib.hid (K_f.out.keep B_w4)
    replace HB := Lib.hid (below_next HB.out B_w4)
    clear hb4 B_w4
    clear cK_c_0 cK_c_1 zK_c cK_f_0 cK_f_1 zK_f
    have cK_c_0 := K_c.out.cell 0
    have cK_c_1 := K_c.out.cell 1
    simp at cK_c_0 cK_c_1
    have zK_c := K_c.out.lt
    have cK_f_0 := K_f.out.cell 0
    have cK_f_1 := K_f.out.cell 1
    simp at cK_f_0 cK_f_1
    have zK_f := K_f.out.lt
    have SP := Lib.hid hS6
    clear hS6
    go_wp2_with fail
    refine (take_any _ _ _ _ _ _ [[1, 2], [-1], [-2]] [(1, [])] 2 _ GP.out ⟨by omega, by omega⟩ SP.out (-1) 0 0 why_end true (by show _ = _; rfl)).mono ?_
    rintro e w5 ⟨rfl, hb5⟩
    have B_w5 := hb5
    replace G := Lib.hid (G.out.keep B_w5)
    replace HV := Lib.hid (HV.out.keep B_w5)
    replace HA := Lib.hid (HA.out.keep B_w5)
    replace GP := Lib.hid (GP.out.keep B_w5)
    replace SP := Lib.hid (SP.out.keep B_w5)
    replace K_c := Lib.hid (K_c.out.keep B_w5)
    replace K_f := Lib.hid (K_f.out.keep B_w5)
    replace HB := Lib.hid (below_next HB.out B_w5)
    clear hb5 B_w5
    clear cK_c_0 cK_c_1 zK_c cK_f_0 cK_f_1 zK_f
    have cK_c_0 := K_c.out.cell 0
    have cK_c_1 := K_c.out.cell 1
    simp at cK_c_0 cK_c_1
    have zK_c := K_c.out.lt
    have cK_f_0 := K_f.out.cell 0
    have cK_f_1 := K_f.out.cell 1
    simp at cK_f_0 cK_f_1
    have zK_f := K_f.out.lt
    clear GP SP
    go_wp2_with fail
    go_ret
    exact ⟨rfl, below_next HB.out (below_new _ _)⟩
  · subst hr1
    obtain ⟨hs, hw, rfl⟩ := whyS_ok hz.out
    cases q
    · go_enter Try.func6, Try.ntmps6
      go_wp2_with fail
      refine (heavy_any _ _ _ _ _ hn63 _ hhv).mono ?_
      rintro e w1 ⟨rfl, hb1⟩
      obtain ⟨K_c0, B_w1, l_w1⟩ := blk1 hb1
      replace G := Lib.hid (G.out.keep B_w1)
      replace HV := Lib.hid (HV.out.keep B_w1)
      replace HA := Lib.hid (HA.out.keep B_w1)
      have HB := Lib.hid B_w1
      have K_c := Lib.hid K_c0
      clear hb1 B_w1 K_c0
      have cK_c_0 := K_c.out.cell 0
      have cK_c_1 := K_c.out.cell 1
      simp at cK_c_0 cK_c_1
      have zK_c := K_c.out.lt
      go_wp2_with fail
      refine (take_any _ _ _ _ _ _ xss rs vars _ G.out hv HV.out z 0 0 hz false hq).mono ?_
      rintro e w2 ⟨rfl, hb2⟩
      have B_w2 := hb2
      replace G := Lib.hid (G.out.keep B_w2)
      replace HV := Lib.hid (HV.out.keep B_w2)
      replace HA := Lib.hid (HA.out.keep B_w2)
      replace K_c := Lib.hid (K_c.out.keep B_w2)
      replace HB := Lib.hid (below_next HB.out B_w2)
      clear hb2 B_w2
      clear cK_c_0 cK_c_1 zK_c
      have cK_c_0 := K_c.out.cell 0
      have cK_c_1 := K_c.out.cell 1
      simp at cK_c_0 cK_c_1
      have zK_c := K_c.out.lt
      go_wp2_with fail
      refine (against_any _).mono ?_
      rintro e w3 ⟨A5, n5, c5, rfl, hG5, hb3⟩
      obtain ⟨K_f0, B_w3, l_w3⟩ := blk1 hb3
      replace G := Lib.hid (G.out.keep B_w3)
      replace HV := Lib.hid (HV.out.keep B_w3)
      replace HA := Lib.hid (HA.out.keep B_w3)
      replace K_c := Lib.hid (K_c.out.keep B_w3)
      replace HB := Lib.hid (below_next HB.out B_w3)
      have K_f := Lib.hid K_f0
      clear hb3 B_w3 K_f0
      clear cK_c_0 cK_c_1 zK_c
      have cK_c_0 := K_c.out.cell 0
      have cK_c_1 := K_c.out.cell 1
      simp at cK_c_0 cK_c_1
      have zK_c := K_c.out.lt
      have cK_f_0 := K_f.out.cell 0
      have cK_f_1 := K_f.out.cell 1
      simp at cK_f_0 cK_f_1
      have zK_f := K_f.out.lt
      have GP := Lib.hid hG5
      clear hG5
      go_wp2_with fail
      refine (end_any _).mono ?_
      rintro e w4 ⟨A6, n6, c6, rfl, hS6, hb4⟩
      have B_w4 := hb4
      replace G := Lib.hid (G.out.keep B_w4)
      replace HV := Lib.hid (HV.out.keep B_w4)
      replace HA := Lib.hid (HA.out.keep B_w4)
      replace GP := Lib.hid (GP.out.keep B_w4)
      replace K_c := Lib.hid (K_c.out.keep B_w4)
      replace K_f := Lib.hid (K_f.out.keep B_w4)
      replace HB := Lib.hid (below_next HB.out B_w4)
      clear hb4 B_w4
      clear cK_c_0 cK_c_1 zK_c cK_f_0 cK_f_1 zK_f
      have cK_c_0 := K_c.out.cell 0
      have cK_c_1 := K_c.out.cell 1
      simp at cK_c_0 cK_c_1
      have zK_c := K_c.out.lt
      have cK_f_0 := K_f.out.cell 0
      have cK_f_1 := K_f.out.cell 1
      simp at cK_f_0 cK_f_1
      have zK_f := K_f.out.lt
      have SP := Lib.hid hS6
      clear hS6
      go_wp2_with fail
      refine (take_any _ _ _ _ _ _ [[1, 2], [-1], [-2]] [(1, [])] 2 _ GP.out ⟨by omega, by omega⟩ SP.out (-1) 0 0 why_end true (by show _ = _; rfl)).mono ?_
      rintro e w5 ⟨rfl, hb5⟩
      have B_w5 := hb5
      replace G := Lib.hid (G.out.keep B_w5)
      replace HV := Lib.hid (HV.out.keep B_w5)
      replace HA := Lib.hid (HA.out.keep B_w5)
      replace GP := Lib.hid (GP.out.keep B_w5)
      replace SP := Lib.hid (SP.out.keep B_w5)
      replace K_c := Lib.hid (K_c.out.keep B_w5)
      replace K_f := Lib.hid (K_f.out.keep B_w5)
      replace HB := Lib.hid (below_next HB.out B_w5)
      clear hb5 B_w5
      clear cK_c_0 cK_c_1 zK_c cK_f_0 cK_f_1 zK_f
      have cK_c_0 := K_c.out.cell 0
      have cK_c_1 := K_c.out.cell 1
      simp at cK_c_0 cK_c_1
      have zK_c := K_c.out.lt
      have cK_f_0 := K_f.out.cell 0
      have cK_f_1 := K_f.out.cell 1
      simp at cK_f_0 cK_f_1
      have zK_f := K_f.out.lt
      clear GP SP
      go_wp2_with fail
      go_ret
      exact ⟨rfl, below_next HB.out (below_new _ _)⟩
    · have hz1 : z = -1 := by have := hq.out; simpa using this
      have HM := Lib.hid (whyS_more (cl := cl) hs (hw.trans hz1))
      obtain ⟨_, hck, _, _⟩ := stepsR_ok hs
      obtain ⟨_, v0, v1, hn400, _⟩ := checkC_ok hck
      have hn4 : n ≤ 400 := by have := hlen.out; omega
      obtain ⟨i0, hi0, hz0, hz1', hz2⟩ := info_parts row_info
      have hf0 := run_fault0
      clear hs hw hck hn400
      go_enter Try.func6, Try.ntmps6
      go_wp2_with fail
      refine (heavy_any _ _ _ _ _ hn63 _ hhv).mono ?_
      rintro e w1 ⟨rfl, hb1⟩
      obtain ⟨K_c0, B_w1, l_w1⟩ := blk1 hb1
      replace G := Lib.hid (G.out.keep B_w1)
      replace HV := Lib.hid (HV.out.keep B_w1)
      replace HA := Lib.hid (HA.out.keep B_w1)
      have HB := Lib.hid B_w1
      have K_c := Lib.hid K_c0
      clear hb1 B_w1 K_c0
      have cK_c_0 := K_c.out.cell 0
      have cK_c_1 := K_c.out.cell 1
      simp at cK_c_0 cK_c_1
      have zK_c := K_c.out.lt
      go_wp2_with fail
      refine (take_any _ _ _ _ _ _ xss rs vars _ G.out hv HV.out z 0 0 hz true hq).mono ?_
      rintro e w2 ⟨rfl, hb2⟩
      have B_w2 := hb2
      replace G := Lib.hid (G.out.keep B_w2)
      replace HV := Lib.hid (HV.out.keep B_w2)
      replace HA := Lib.hid (HA.out.keep B_w2)
      replace K_c := Lib.hid (K_c.out.keep B_w2)
      replace HB := Lib.hid (below_next HB.out B_w2)
      clear hb2 B_w2
      clear cK_c_0 cK_c_1 zK_c
      have cK_c_0 := K_c.out.cell 0
      have cK_c_1 := K_c.out.cell 1
      simp at cK_c_0 cK_c_1
      have zK_c := K_c.out.lt
      go_wp2_with fail
      refine (against_any _).mono ?_
      rintro e w3 ⟨A5, n5, c5, rfl, hG5, hb3⟩
      obtain ⟨K_f0, B_w3, l_w3⟩ := blk1 hb3
      replace G := Lib.hid (G.out.keep B_w3)
      replace HV := Lib.hid (HV.out.keep B_w3)
      replace HA := Lib.hid (HA.out.keep B_w3)
      replace K_c := Lib.hid (K_c.out.keep B_w3)
      replace HB := Lib.hid (below_next HB.out B_w3)
      have K_f := Lib.hid K_f0
      clear hb3 B_w3 K_f0
      clear cK_c_0 cK_c_1 zK_c
      have cK_c_0 := K_c.out.cell 0
      have cK_c_1 := K_c.out.cell 1
      simp at cK_c_0 cK_c_1
      have zK_c := K_c.out.lt
      have cK_f_0 := K_f.out.cell 0
      have cK_f_1 := K_f.out.cell 1
      simp at cK_f_0 cK_f_1
      have zK_f := K_f.out.lt
      have GP := Lib.hid hG5
      clear hG5
      go_wp2_with fail
      refine (end_any _).mono ?_
      rintro e w4 ⟨A6, n6, c6, rfl, hS6, hb4⟩
      have B_w4 := hb4
      replace G := Lib.hid (G.out.keep B_w4)
      replace HV := Lib.hid (HV.out.keep B_w4)
      replace HA := Lib.hid (HA.out.keep B_w4)
      replace GP := Lib.hid (GP.out.keep B_w4)
      replace K_c := Lib.hid (K_c.out.keep B_w4)
      replace K_f := Lib.hid (K_f.out.keep B_w4)
      replace HB := Lib.hid (below_next HB.out B_w4)
      clear hb4 B_w4
      clear cK_c_0 cK_c_1 zK_c cK_f_0 cK_f_1 zK_f
      have cK_c_0 := K_c.out.cell 0
      have cK_c_1 := K_c.out.cell 1
      simp at cK_c_0 cK_c_1
      have zK_c := K_c.out.lt
      have cK_f_0 := K_f.out.cell 0
      have cK_f_1 := K_f.out.cell 1
      simp at cK_f_0 cK_f_1
      have zK_f := K_f.out.lt
      have SP := Lib.hid hS6
      clear hS6
      go_wp2_with fail
      refine (take_any _ _ _ _ _ _ [[1, 2], [-1], [-2]] [(1, [])] 2 _ GP.out ⟨by omega, by omega⟩ SP.out (-1) 0 0 why_end true (by show _ = _; rfl)).mono ?_
      rintro e w5 ⟨rfl, hb5⟩
      have B_w5 := hb5
      replace G := Lib.hid (G.out.keep B_w5)
      replace HV := Lib.hid (HV.out.keep B_w5)
      replace HA := Lib.hid (HA.out.keep B_w5)
      replace GP := Lib.hid (GP.out.keep B_w5)
      replace SP := Lib.hid (SP.out.keep B_w5)
      replace K_c := Lib.hid (K_c.out.keep B_w5)
      replace K_f := Lib.hid (K_f.out.keep B_w5)
      replace HB := Lib.hid (below_next HB.out B_w5)
      clear hb5 B_w5
      clear cK_c_0 cK_c_1 zK_c cK_f_0 cK_f_1 zK_f
      have cK_c_0 := K_c.out.cell 0
      have cK_c_1 := K_c.out.cell 1
      simp at cK_c_0 cK_c_1
      have zK_c := K_c.out.lt
      have cK_f_0 := K_f.out.cell 0
      have cK_f_1 := K_f.out.cell 1
      simp at cK_f_0 cK_f_1
      have zK_f := K_f.out.lt
      clear GP SP
      go_wp2_with fail
      obtain ⟨wr, hwr⟩ : ∃ wr : World, wr = (w5.alloc (.cells #[.int .i64 0, .int .i64 0] 28)) := ⟨_, rfl⟩
      have hbr : Below w5.heap.size w5 wr := by rw [hwr]; exact (below_new _ _)
      rw [← hwr]
      replace G := Lib.hid (G.out.keep hbr)
      replace HV := Lib.hid (HV.out.keep hbr)
      replace HA := Lib.hid (HA.out.keep hbr)
      replace HB := Lib.hid (below_next HB.out hbr)
      replace K_c := Lib.hid (K_c.out.keep hbr)
      clear cK_c_0 cK_c_1 zK_c cK_f_0 cK_f_1 zK_f hwr hbr
      have cK_c_0 := K_c.out.cell 0
      have cK_c_1 := K_c.out.cell 1
      simp at cK_c_0 cK_c_1
      have zK_c := K_c.out.lt
      obtain ⟨vs, hvs1, hvl, hvs2⟩ := G.out.ex
      have HSL := Lib.hid hvs1
      have HGV : Hid (RowsL wr vs xss) := ⟨hvl, hvs2⟩
      have HONE : Hid (∀ u ∈ vs, u.oneCell' = true) := rowsL_one HGV.out
      clear hvs1 hvl hvs2
      obtain ⟨v0, hv0⟩ : ∃ v0 : World, v0 = { wr with drawn := wr.drawn + 1 } := ⟨_, rfl⟩
      have bv0 : Below wr.heap.size wr v0 := by rw [hv0]; exact below_drewN wr 1
      have HB0 := Lib.hid bv0
      have lw0 := bv0.size
      have hS : v0.cell? ⟨w.heap.size, 0, none⟩ = some (.int .i64 vars) ∧ v0.cell? ⟨w.heap.size, 1, none⟩ = some (.slice A n c) := ⟨keepBox bv0 cK_c_0, keepBox bv0 cK_c_1⟩
      refine wp_region_tail (fun w' => w'.cell? ⟨w.heap.size, 0, none⟩ = some (.int .i64 vars) ∧ w'.cell? ⟨w.heap.size, 1, none⟩ = some (.slice A n c)) [] (by kernel_rfl) ?_
      rw [← hv0]
      clear hv0 bv0
      refine take0 (i := 0) (oi := _) (v := ?_) rfl (by kernel_rfl) (by kernel_rfl) (by kernel_rfl) (fun _ _ _ h => h) rfl (Or.inl ⟨by rfl, ?_⟩) (fun _ => hS) ?_
      rotate_left
      · intro w0; go_simp; with_reducible rfl
      (try simp only [Act.put, List.setIfInBounds_toArray, List.set_cons_zero, List.set_cons_succ])
      refine takeS (i := 1) (oi := _) (v := ?_) rfl (by kernel_rfl) (by kernel_rfl) (by kernel_rfl) (fun _ _ _ h => h) rfl (by kernel_rfl) (by kernel_rfl) (Or.inl ⟨by rfl, ?_⟩) hS ?_
      rotate_left
      · intro w0 hSw; (try dsimp only at hSw); go_simp; with_reducible rfl
      (try simp only [Act.put, List.setIfInBounds_toArray, List.set_cons_zero, List.set_cons_succ])
      refine take0 (i := 3) (oi := _) (v := ?_) rfl (by kernel_rfl) (by kernel_rfl) (by kernel_rfl) (fun _ _ _ h => h) rfl (Or.inl ⟨by rfl, ?_⟩) (fun _ => hS) ?_
      rotate_left
      · intro w0; go_simp; with_reducible rfl
      (try simp only [Act.put, List.setIfInBounds_toArray, List.set_cons_zero, List.set_cons_succ])
      refine takeS (i := 4) (oi := _) (v := ?_) rfl (by kernel_rfl) (by kernel_rfl) (by kernel_rfl) (fun _ _ _ h => h) rfl (by kernel_rfl) (by kernel_rfl) (Or.inl ⟨by rfl, ?_⟩) hS ?_
      rotate_left
      · intro w0 hSw; (try dsimp only at hSw); go_simp; with_reducible rfl
      (try simp only [Act.put, List.setIfInBounds_toArray, List.set_cons_zero, List.set_cons_succ])
      refine take0 (i := 6) (oi := _) (v := ?_) rfl (by kernel_rfl) (by kernel_rfl) (by kernel_rfl) (fun _ _ _ h => h) rfl (Or.inl ⟨by rfl, ?_⟩) (fun _ => hS) ?_
      rotate_left
      · intro w0; go_simp; with_reducible rfl
      (try simp only [Act.put, List.setIfInBounds_toArray, List.set_cons_zero, List.set_cons_succ])
      refine threeT (i := 2) (j := 7) (k := 10) (by kernel_rfl) rfl (by rfl) rfl (by rfl) rfl (by rfl) (fun K hK => ?_) (fun K hK => ?_) (fun K hK => ?_)
      · obtain ⟨v1, hv1⟩ : ∃ v1 : World, v1 = v0.alloc (.cells #[] 41) := ⟨_, rfl⟩
        have bv1 : Below v0.heap.size v0 v1 := by rw [hv1]; exact below_new _ _
        have zv1 : v0.heap.size < v1.heap.size := by rw [hv1]; simp
        have OR1 : Hid (Own 41 v1 wr.heap.size (some ⟨v0.heap.size, 0, none⟩) 0 0 []) := by rw [hv1]; exact own_empty _ _ _ rfl (by omega)
        have HB1 := Lib.hid (below_next HB0.out bv1)
        have lw1 := HB1.out.size
        go_simp
        rw [← hv1]
        clear hv1
        have hS : v1.cell? ⟨w.heap.size, 0, none⟩ = some (.int .i64 vars) ∧ v1.cell? ⟨w.heap.size, 1, none⟩ = some (.slice A n c) := ⟨keepBox HB1.out cK_c_0, keepBox HB1.out cK_c_1⟩
        refine hK _ _ (fun _ => hS) ?_
        clear hK
        (try simp only [Act.put, List.setIfInBounds_toArray, List.set_cons_zero, List.set_cons_succ])
        refine threeT (i := 5) (j := 7) (k := 10) (by kernel_rfl) rfl (by rfl) rfl (by rfl) rfl (by rfl) (fun K hK => ?_) (fun K hK => ?_) (fun K hK => ?_)
        · refine wp_append_sl _ (.tmp 51) (.tmp 53) 22 rfl wr.heap.size 41 i0 _ 24 Try.underlying22 hi0 hz0 hz1' hz2 rfl (some ⟨v0.heap.size, 0, none⟩) 0 0 _ rfl OR1.out A n c vs rfl (HSL.out.keep HB1.out) HONE.out (by simp only [maxLen]; omega) (by omega) (by omega) ?_
          intro R2 cR2 v2 hO2 hG2 hA2
          have HB2 : Hid (Below wr.heap.size wr v2) := HB1.out.grown hG2 HB1.out.size (fun k' hk' => own_base OR1.out hk')
          have lw2 := HB2.out.size
          have zg2 := hG2.size
          have OR2 : Hid (Own 41 v2 wr.heap.size R2 n cR2 vs) := by simpa [Hid] using hO2
          clear hO2 hG2 hA2
          have hS : v2.cell? ⟨w.heap.size, 0, none⟩ = some (.int .i64 vars) ∧ v2.cell? ⟨w.heap.size, 1, none⟩ = some (.slice A n c) := ⟨keepBox HB2.out cK_c_0, keepBox HB2.out cK_c_1⟩
          refine hK _ _ (fun _ => hS) ?_
          clear hK
          (try simp only [Act.put, List.setIfInBounds_toArray, List.set_cons_zero, List.set_cons_succ])
          (try simp only [Nat.zero_add])
          refine twoT (i := 7) (j := 10) (by kernel_rfl) rfl (by rfl) rfl (by rfl) (fun K hK => ?_) (fun K hK => ?_)
          · obtain ⟨v3, hv3⟩ : ∃ v3 : World, v3 = v2.alloc (.cells #[.slice C p f] 41) := ⟨_, rfl⟩
            have bv3 : Below v2.heap.size v2 v3 := by rw [hv3]; exact below_new _ _
            have zv3 : v2.heap.size < v3.heap.size := by rw [hv3]; simp
            have OR3 := Lib.hid (OR2.out.keep bv3)
            have SB3 : Hid (Sl v3 (some ⟨v2.heap.size, 0, none⟩) 1 1 [.slice C p f]) := by rw [hv3]; exact sl_one v2 41 (.slice C p f) rfl
            have NE3 : blockOf R2 ≠ some v2.heap.size := OR2.out.ltb (Nat.le_refl _)
            have HB3 := Lib.hid (below_next HB2.out bv3)
            have lw3 := HB3.out.size
            go_simp
            rw [← hv3]
            clear hv3
            have hS : v3.cell? ⟨w.heap.size, 0, none⟩ = some (.int .i64 vars) ∧ v3.cell? ⟨w.heap.size, 1, none⟩ = some (.slice A n c) := ⟨keepBox HB3.out cK_c_0, keepBox HB3.out cK_c_1⟩
            refine hK _ _ (fun _ => hS) ?_
            clear hK
            (try simp only [Act.put, List.setIfInBounds_toArray, List.set_cons_zero, List.set_cons_succ])
            refine twoT (i := 8) (j := 10) (by kernel_rfl) rfl (by rfl) rfl (by rfl) (fun K hK => ?_) (fun K hK => ?_)
            · refine wp_append_sl _ (.tmp 54) (.tmp 56) 22 rfl wr.heap.size 41 i0 _ 24 Try.underlying22 hi0 hz0 hz1' hz2 rfl R2 n cR2 _ rfl OR3.out (some ⟨v2.heap.size, 0, none⟩) 1 1 [.slice C p f] rfl SB3.out (by simp [Value.oneCell']) (by simp only [maxLen]; omega) (by omega) (by omega) ?_
              intro R4 cR4 v4 hO4 hG4 hA4
              have HB4 : Hid (Below wr.heap.size wr v4) := HB3.out.grown hG4 HB3.out.size (fun k' hk' => own_base OR3.out hk')
              have lw4 := HB4.out.size
              have zg4 := hG4.size
              have OR4 : Hid (Own 41 v4 wr.heap.size R4 (n + 1) cR4 (vs ++ [.slice C p f])) := by simpa [Hid] using hO4
              clear hO4 hG4 hA4
              have hS : v4.cell? ⟨w.heap.size, 0, none⟩ = some (.int .i64 vars) ∧ v4.cell? ⟨w.heap.size, 1, none⟩ = some (.slice A n c) := ⟨keepBox HB4.out cK_c_0, keepBox HB4.out cK_c_1⟩
              refine hK _ _ (fun _ => hS) ?_
              clear hK
              (try simp only [Act.put, List.setIfInBounds_toArray, List.set_cons_zero, List.set_cons_succ])
              (try simp only [Nat.zero_add])
              refine twoT (i := 9) (j := 10) (by kernel_rfl) rfl (by rfl) rfl (by rfl) (fun K hK => ?_) (fun K hK => ?_)
              · go_simp
                have hS : v4.cell? ⟨w.heap.size, 0, none⟩ = some (.int .i64 vars) ∧ v4.cell? ⟨w.heap.size, 1, none⟩ = some (.slice A n c) := ⟨keepBox HB4.out cK_c_0, keepBox HB4.out cK_c_1⟩
                refine hK _ _ (fun _ => hS) ?_
                clear hK
                (try simp only [Act.put, List.setIfInBounds_toArray, List.set_cons_zero, List.set_cons_succ])
                refine oneT (i := 10) (by kernel_rfl) rfl (by rfl) (fun K hK => ?_)
                obtain ⟨v6, hv6⟩ : ∃ v6 : World, v6 = v4.alloc (.cells #[.int .i64 0, .slice none 0 0] 24) := ⟨_, rfl⟩
                have bv6 : Below v4.heap.size v4 v6 := by rw [hv6]; exact below_new _ _
                have zv6 : v4.heap.size < v6.heap.size := by rw [hv6]; simp
                have OR6 := Lib.hid (OR4.out.keep bv6)
                have KB6 : Hid (Blk v6 v4.heap.size 24 #[.int .i64 0, .slice none 0 0]) := by rw [hv6]; exact Blk.new _ _ _
                have HB6 := Lib.hid (below_next HB4.out bv6)
                have lw6 := HB6.out.size
                go_simp
                rw [← hv6]
                clear hv6
                have hS : v6.cell? ⟨w.heap.size, 0, none⟩ = some (.int .i64 vars) ∧ v6.cell? ⟨w.heap.size, 1, none⟩ = some (.slice A n c) := ⟨keepBox HB6.out cK_c_0, keepBox HB6.out cK_c_1⟩
                refine hK _ _ (fun _ => hS) ?_
                clear hK
                (try simp only [Act.put, List.setIfInBounds_toArray, List.set_cons_zero, List.set_cons_succ])
                refine oneT (i := 11) (by kernel_rfl) rfl (by rfl) (fun K hK => ?_)
                have e0 := KB6.out.cell 0
                have e1 := KB6.out.cell 1
                have f0 := KB6.out.frozen 0
                have f1 := KB6.out.frozen 1
                simp at e0 e1
                have le := KB6.out.lt
                obtain ⟨v7, hv7⟩ : ∃ v7 : World, v7 = (v6.setCell ⟨v4.heap.size, 0, none⟩ (.int .i64 vars)).setCell ⟨v4.heap.size, 1, none⟩ (.slice R4 (n + 1) cR4) := ⟨_, rfl⟩
                have KB7 : Hid (Blk v7 v4.heap.size 24 #[.int .i64 vars, .slice R4 (n + 1) cR4]) := by rw [hv7]; have := (KB6.out.set_ 0 (.int .i64 vars)).set_ 1 (.slice R4 (n + 1) cR4); simpa [Hid] using this
                have HB7 : Hid (Below wr.heap.size wr v7) := by rw [hv7]; exact below_put2 HB6.out (by omega) _ _
                have OR7 : Hid (Own 41 v7 wr.heap.size R4 (n + 1) cR4 (vs ++ [.slice C p f])) := by rw [hv7]; exact own_box OR6.out KB6.out row_ne_cnf _ _
                go_simp
                rw [← hv7]
                clear hv7 e0 e1 f0 f1 le
                have hS : v7.cell? ⟨w.heap.size, 0, none⟩ = some (.int .i64 vars) ∧ v7.cell? ⟨w.heap.size, 1, none⟩ = some (.slice A n c) := ⟨keepBox HB7.out cK_c_0, keepBox HB7.out cK_c_1⟩
                refine hK _ _ (fun _ => hS) ?_
                clear hK
                (try simp only [Act.put, List.setIfInBounds_toArray, List.set_cons_zero, List.set_cons_succ])
                refine doneT (by kernel_rfl) ?_ _
                have XX := Lib.hid (fin_grid G.out HA.out HB7.out HGV.out OR7.out)
                have k0 := KB7.out.cell 0
                have k1 := KB7.out.cell 1
                simp at k0 k1
                have lk := KB7.out.lt
                have HVx := Lib.hid (HV.out.keep HB7.out)
                have BW := HB7
                have hgb := XX.out.bd
                have BWW := Lib.hid (below_next HB.out BW.out)
                clear K_c K_f G HA
                obtain ⟨wz, hwz⟩ : ∃ wz : World, wz = v7 := ⟨_, rfl⟩
                subst hwz
                rcases HM.out with ⟨hne, hwy⟩ | ⟨hck2, hwy⟩
                · obtain ⟨p1, p2, hcc⟩ : ∃ p1 p2, Hid (checkC vars (xss ++ [cl]) = (p1, p2)) := ⟨_, _, rfl⟩
                  rw [hcc.out] at hne hwy
                  have hne' : p1 ≠ 0 := hne
                  have HWY := Lib.hid hwy
                  clear hne hwy
                  have d1 : (p1 != 0) = true := by simpa using hne'
                  have e1 : (p1 == p1) = true := by simp
                  have e2 : (p2 == p2) = true := by simp
                  go_wp2_with fail
                  refine (take_any _ _ _ _ _ _ (xss ++ [cl]) rs vars wz XX.out hv HVx.out 0 p1 p2 HWY.out false (by show _ = _; simp [hne'])).mono ?_
                  rintro e w21 ⟨rfl, hb21⟩
                  have a0 := keepBox hb21 k0
                  have a1 := keepBox hb21 k1
                  have la := (cell_lt a0).1
                  have G21 := Lib.hid ((XX.out.keep hb21).keep (below_new w21 (.cells #[.int .i64 p1, .int .i64 p2] 28)))
                  have B21 := Lib.hid (below_next BWW.out (below_next hb21 (below_new w21 (.cells #[.int .i64 p1, .int .i64 p2] 28))))
                  clear hb21 k0 k1 lk
                  go_wp2_with fail
                  refine (check_ref _ _ _ (xss ++ [cl]) vars _ G21.out hv p1 p2 hcc).mono ?_
                  rintro e w22 ⟨rfl, hb22⟩
                  obtain ⟨KT, Bx, _⟩ := blk1 hb22
                  have b0 := keepBox Bx a0
                  have b1 := keepBox Bx a1
                  have t0' := KT.cell 0
                  have t1' := KT.cell 1
                  simp at t0' t1'
                  have G22 := Lib.hid (G21.out.keep hb22)
                  have B22 := Lib.hid (below_next B21.out hb22)
                  clear hb22 Bx KT a0 a1 la
                  go_wp2_with fail
                  have Q0 := Lib.hid (show (w22.cell? ⟨w21.heap.size, 0, none⟩ = some (.int .i64 p1) ∧ w22.cell? ⟨w21.heap.size, 1, none⟩ = some (.int .i64 p2) ∧ w22.cell? ⟨v4.heap.size, 0, none⟩ = some (.int .i64 vars) ∧ w22.cell? ⟨v4.heap.size, 1, none⟩ = some (.slice R4 (n + 1) cR4)) ∧ Below w22.heap.size w22 w22 from ⟨⟨t0', t1', b0, b1⟩, Below.refl _ _⟩)
                  clear t0' t1' b0 b1
                  go_region_held3 (fun w' => (w'.cell? ⟨w21.heap.size, 0, none⟩ = some (.int .i64 p1) ∧ w'.cell? ⟨w21.heap.size, 1, none⟩ = some (.int .i64 p2) ∧ w'.cell? ⟨v4.heap.size, 0, none⟩ = some (.int .i64 vars) ∧ w'.cell? ⟨v4.heap.size, 1, none⟩ = some (.slice R4 (n + 1) cR4)) ∧ Below w22.heap.size w22 w') (first | exact held4 (by assumption) (by assumption) | exact held4 (by assumption) (below_new _ _) | exact held4 (by assumption) (below_drewN _ _) | exact held4 Q0.out (below_drewN _ 1))
                    ((go_at_call 23; (with_reducible refine (check_ref _ _ _ (xss ++ [cl]) vars _ ?_ hv p1 p2 hcc).mono ?_); (exact G22.out.keep (And.right (by assumption))); rintro e w23 ⟨rfl, hb23⟩))
                  all_goals
                    go_wp2_with fail
                    go_ret
                    exact ⟨rfl, below_next B22.out (And.right (by assumption))⟩
                · have HWY := Lib.hid hwy
                  clear hwy
                  go_wp2_with fail
                  refine (take_any _ _ _ _ _ _ (xss ++ [cl]) rs vars wz XX.out hv HVx.out (-1) 0 0 HWY.out true (by show _ = _; rfl)).mono ?_
                  rintro e w21 ⟨rfl, hb21⟩
                  have a0 := keepBox hb21 k0
                  have a1 := keepBox hb21 k1
                  have la := (cell_lt a0).1
                  have G21 := Lib.hid ((XX.out.keep hb21).keep (below_new w21 (.cells #[.int .i64 0, .int .i64 0] 28)))
                  have B21 := Lib.hid (below_next BWW.out (below_next hb21 (below_new w21 (.cells #[.int .i64 0, .int .i64 0] 28))))
                  clear hb21 k0 k1 lk
                  go_wp2_with fail
                  refine (check_ref _ _ _ (xss ++ [cl]) vars _ G21.out hv 0 0 hck2).mono ?_
                  rintro e w22 ⟨rfl, hb22⟩
                  obtain ⟨KT, Bx, _⟩ := blk1 hb22
                  have t0' := KT.cell 0
                  have t1' := KT.cell 1
                  simp at t0' t1'
                  have lt' := KT.lt
                  have B22 := Lib.hid (below_next B21.out hb22)
                  clear hb22 Bx KT a0 a1 la
                  go_wp2_with fail
                  go_ret
                  exact ⟨rfl, B22.out⟩
              · obtain ⟨v8, hv8⟩ : ∃ v8 : World, v8 = v4.alloc (.cells #[.int .i64 0, .slice none 0 0] 24) := ⟨_, rfl⟩
                have bv8 : Below v4.heap.size v4 v8 := by rw [hv8]; exact below_new _ _
                have zv8 : v4.heap.size < v8.heap.size := by rw [hv8]; simp
                have OR8 := Lib.hid (OR4.out.keep bv8)
                have KB8 : Hid (Blk v8 v4.heap.size 24 #[.int .i64 0, .slice none 0 0]) := by rw [hv8]; exact Blk.new _ _ _
                have HB8 := Lib.hid (below_next HB4.out bv8)
                have lw8 := HB8.out.size
                go_simp
                rw [← hv8]
                clear hv8
                have hS : v8.cell? ⟨w.heap.size, 0, none⟩ = some (.int .i64 vars) ∧ v8.cell? ⟨w.heap.size, 1, none⟩ = some (.slice A n c) := ⟨keepBox HB8.out cK_c_0, keepBox HB8.out cK_c_1⟩
                refine hK _ _ (fun _ => hS) ?_
                clear hK
                (try simp only [Act.put, List.setIfInBounds_toArray, List.set_cons_zero, List.set_cons_succ])
                refine oneT (i := 9) (by kernel_rfl) rfl (by rfl) (fun K hK => ?_)
                go_simp
                have hS : v8.cell? ⟨w.heap.size, 0, none⟩ = some (.int .i64 vars) ∧ v8.cell? ⟨w.heap.size, 1, none⟩ = some (.slice A n c) := ⟨keepBox HB8.out cK_c_0, keepBox HB8.out cK_c_1⟩
                refine hK _ _ (fun _ => hS) ?_
                clear hK
                (try simp only [Act.put, List.setIfInBounds_toArray, List.set_cons_zero, List.set_cons_succ])
                refine oneT (i := 11) (by kernel_rfl) rfl (by rfl) (fun K hK => ?_)
                have e0 := KB8.out.cell 0
                have e1 := KB8.out.cell 1
                have f0 := KB8.out.frozen 0
                have f1 := KB8.out.frozen 1
                simp at e0 e1
                have le := KB8.out.lt
                obtain ⟨v10, hv10⟩ : ∃ v10 : World, v10 = (v8.setCell ⟨v4.heap.size, 0, none⟩ (.int .i64 vars)).setCell ⟨v4.heap.size, 1, none⟩ (.slice R4 (n + 1) cR4) := ⟨_, rfl⟩
                have KB10 : Hid (Blk v10 v4.heap.size 24 #[.int .i64 vars, .slice R4 (n + 1) cR4]) := by rw [hv10]; have := (KB8.out.set_ 0 (.int .i64 vars)).set_ 1 (.slice R4 (n + 1) cR4); simpa [Hid] using this
                have HB10 : Hid (Below wr.heap.size wr v10) := by rw [hv10]; exact below_put2 HB8.out (by omega) _ _
                have OR10 : Hid (Own 41 v10 wr.heap.size R4 (n + 1) cR4 (vs ++ [.slice C p f])) := by rw [hv10]; exact own_box OR8.out KB8.out row_ne_cnf _ _
                go_simp
                rw [← hv10]
                clear hv10 e0 e1 f0 f1 le
                have hS : v10.cell? ⟨w.heap.size, 0, none⟩ = some (.int .i64 vars) ∧ v10.cell? ⟨w.heap.size, 1, none⟩ = some (.slice A n c) := ⟨keepBox HB10.out cK_c_0, keepBox HB10.out cK_c_1⟩
                refine hK _ _ (fun _ => hS) ?_
                clear hK
                (try simp only [Act.put, List.setIfInBounds_toArray, List.set_cons_zero, List.set_cons_succ])
                refine doneT (by kernel_rfl) ?_ _
                have XX := Lib.hid (fin_grid G.out HA.out HB10.out HGV.out OR10.out)
                have k0 := KB10.out.cell 0
                have k1 := KB10.out.cell 1
                simp at k0 k1
                have lk := KB10.out.lt
                have HVx := Lib.hid (HV.out.keep HB10.out)
                have BW := HB10
                have hgb := XX.out.bd
                have BWW := Lib.hid (below_next HB.out BW.out)
                clear K_c K_f G HA
                obtain ⟨wz, hwz⟩ : ∃ wz : World, wz = v10 := ⟨_, rfl⟩
                subst hwz
                rcases HM.out with ⟨hne, hwy⟩ | ⟨hck2, hwy⟩
                · obtain ⟨p1, p2, hcc⟩ : ∃ p1 p2, Hid (checkC vars (xss ++ [cl]) = (p1, p2)) := ⟨_, _, rfl⟩
                  rw [hcc.out] at hne hwy
                  have hne' : p1 ≠ 0 := hne
                  have HWY := Lib.hid hwy
                  clear hne hwy
                  have d1 : (p1 != 0) = true := by simpa using hne'
                  have e1 : (p1 == p1) = true := by simp
                  have e2 : (p2 == p2) = true := by simp
                  go_wp2_with fail
                  refine (take_any _ _ _ _ _ _ (xss ++ [cl]) rs vars wz XX.out hv HVx.out 0 p1 p2 HWY.out false (by show _ = _; simp [hne'])).mono ?_
                  rintro e w21 ⟨rfl, hb21⟩
                  have a0 := keepBox hb21 k0
                  have a1 := keepBox hb21 k1
                  have la := (cell_lt a0).1
                  have G21 := Lib.hid ((XX.out.keep hb21).keep (below_new w21 (.cells #[.int .i64 p1, .int .i64 p2] 28)))
                  have B21 := Lib.hid (below_next BWW.out (below_next hb21 (below_new w21 (.cells #[.int .i64 p1, .int .i64 p2] 28))))
                  clear hb21 k0 k1 lk
                  go_wp2_with fail
                  refine (check_ref _ _ _ (xss ++ [cl]) vars _ G21.out hv p1 p2 hcc).mono ?_
                  rintro e w22 ⟨rfl, hb22⟩
                  obtain ⟨KT, Bx, _⟩ := blk1 hb22
                  have b0 := keepBox Bx a0
                  have b1 := keepBox Bx a1
                  have t0' := KT.cell 0
                  have t1' := KT.cell 1
                  simp at t0' t1'
                  have G22 := Lib.hid (G21.out.keep hb22)
                  have B22 := Lib.hid (below_next B21.out hb22)
                  clear hb22 Bx KT a0 a1 la
                  go_wp2_with fail
                  have Q0 := Lib.hid (show (w22.cell? ⟨w21.heap.size, 0, none⟩ = some (.int .i64 p1) ∧ w22.cell? ⟨w21.heap.size, 1, none⟩ = some (.int .i64 p2) ∧ w22.cell? ⟨v4.heap.size, 0, none⟩ = some (.int .i64 vars) ∧ w22.cell? ⟨v4.heap.size, 1, none⟩ = some (.slice R4 (n + 1) cR4)) ∧ Below w22.heap.size w22 w22 from ⟨⟨t0', t1', b0, b1⟩, Below.refl _ _⟩)
                  clear t0' t1' b0 b1
                  go_region_held3 (fun w' => (w'.cell? ⟨w21.heap.size, 0, none⟩ = some (.int .i64 p1) ∧ w'.cell? ⟨w21.heap.size, 1, none⟩ = some (.int .i64 p2) ∧ w'.cell? ⟨v4.heap.size, 0, none⟩ = some (.int .i64 vars) ∧ w'.cell? ⟨v4.heap.size, 1, none⟩ = some (.slice R4 (n + 1) cR4)) ∧ Below w22.heap.size w22 w') (first | exact held4 (by assumption) (by assumption) | exact held4 (by assumption) (below_new _ _) | exact held4 (by assumption) (below_drewN _ _) | exact held4 Q0.out (below_drewN _ 1))
                    ((go_at_call 23; (with_reducible refine (check_ref _ _ _ (xss ++ [cl]) vars _ ?_ hv p1 p2 hcc).mono ?_); (exact G22.out.keep (And.right (by assumption))); rintro e w23 ⟨rfl, hb23⟩))
                  all_goals
                    go_wp2_with fail
                    go_ret
                    exact ⟨rfl, below_next B22.out (And.right (by assumption))⟩
                · have HWY := Lib.hid hwy
                  clear hwy
                  go_wp2_with fail
                  refine (take_any _ _ _ _ _ _ (xss ++ [cl]) rs vars wz XX.out hv HVx.out (-1) 0 0 HWY.out true (by show _ = _; rfl)).mono ?_
                  rintro e w21 ⟨rfl, hb21⟩
                  have a0 := keepBox hb21 k0
                  have a1 := keepBox hb21 k1
                  have la := (cell_lt a0).1
                  have G21 := Lib.hid ((XX.out.keep hb21).keep (below_new w21 (.cells #[.int .i64 0, .int .i64 0] 28)))
                  have B21 := Lib.hid (below_next BWW.out (below_next hb21 (below_new w21 (.cells #[.int .i64 0, .int .i64 0] 28))))
                  clear hb21 k0 k1 lk
                  go_wp2_with fail
                  refine (check_ref _ _ _ (xss ++ [cl]) vars _ G21.out hv 0 0 hck2).mono ?_
                  rintro e w22 ⟨rfl, hb22⟩
                  obtain ⟨KT, Bx, _⟩ := blk1 hb22
                  have t0' := KT.cell 0
                  have t1' := KT.cell 1
                  simp at t0' t1'
                  have lt' := KT.lt
                  have B22 := Lib.hid (below_next B21.out hb22)
                  clear hb22 Bx KT a0 a1 la
                  go_wp2_with fail
                  go_ret
                  exact ⟨rfl, B22.out⟩
            · obtain ⟨v11, hv11⟩ : ∃ v11 : World, v11 = v3.alloc (.cells #[.int .i64 0, .slice none 0 0] 24) := ⟨_, rfl⟩
              have bv11 : Below v3.heap.size v3 v11 := by rw [hv11]; exact below_new _ _
              have zv11 : v3.heap.size < v11.heap.size := by rw [hv11]; simp
              have OR11 := Lib.hid (OR3.out.keep bv11)
              have SB11 := Lib.hid (SB3.out.keep bv11)
              have KB11 : Hid (Blk v11 v3.heap.size 24 #[.int .i64 0, .slice none 0 0]) := by rw [hv11]; exact Blk.new _ _ _
              have HB11 := Lib.hid (below_next HB3.out bv11)
              have lw11 := HB11.out.size
              go_simp
              rw [← hv11]
              clear hv11
              have hS : v11.cell? ⟨w.heap.size, 0, none⟩ = some (.int .i64 vars) ∧ v11.cell? ⟨w.heap.size, 1, none⟩ = some (.slice A n c) := ⟨keepBox HB11.out cK_c_0, keepBox HB11.out cK_c_1⟩
              refine hK _ _ (fun _ => hS) ?_
              clear hK
              (try simp only [Act.put, List.setIfInBounds_toArray, List.set_cons_zero, List.set_cons_succ])
              refine oneT (i := 8) (by kernel_rfl) rfl (by rfl) (fun K hK => ?_)
              refine wp_append_sl _ (.tmp 54) (.tmp 56) 22 rfl wr.heap.size 41 i0 _ 24 Try.underlying22 hi0 hz0 hz1' hz2 rfl R2 n cR2 _ rfl OR11.out (some ⟨v2.heap.size, 0, none⟩) 1 1 [.slice C p f] rfl SB11.out (by simp [Value.oneCell']) (by simp only [maxLen]; omega) (by omega) (by omega) ?_
              intro R12 cR12 v12 hO12 hG12 hA12
              have HB12 : Hid (Below wr.heap.size wr v12) := HB11.out.grown hG12 HB11.out.size (fun k' hk' => own_base OR11.out hk')
              have lw12 := HB12.out.size
              have zg12 := hG12.size
              have OR12 : Hid (Own 41 v12 wr.heap.size R12 (n + 1) cR12 (vs ++ [.slice C p f])) := by simpa [Hid] using hO12
              have KB12 : Hid (Blk v12 v3.heap.size 24 #[.int .i64 0, .slice none 0 0]) := KB11.out.grown hG12 (fun e => (OR11.out.ne_typed (Typed.of_blk KB11.out) row_ne_cnf).elim (fun h => by rw [h] at e; cases e) (fun h => h e.symm))
              clear hO12 hG12 hA12
              have hS : v12.cell? ⟨w.heap.size, 0, none⟩ = some (.int .i64 vars) ∧ v12.cell? ⟨w.heap.size, 1, none⟩ = some (.slice A n c) := ⟨keepBox HB12.out cK_c_0, keepBox HB12.out cK_c_1⟩
              refine hK _ _ (fun _ => hS) ?_
              clear hK
              (try simp only [Act.put, List.setIfInBounds_toArray, List.set_cons_zero, List.set_cons_succ])
              (try simp only [Nat.zero_add])
              refine oneT (i := 9) (by kernel_rfl) rfl (by rfl) (fun K hK => ?_)
              go_simp
              have hS : v12.cell? ⟨w.heap.size, 0, none⟩ = some (.int .i64 vars) ∧ v12.cell? ⟨w.heap.size, 1, none⟩ = some (.slice A n c) := ⟨keepBox HB12.out cK_c_0, keepBox HB12.out cK_c_1⟩
              refine hK _ _ (fun _ => hS) ?_
              clear hK
              (try simp only [Act.put, List.setIfInBounds_toArray, List.set_cons_zero, List.set_cons_succ])
              refine oneT (i := 11) (by kernel_rfl) rfl (by rfl) (fun K hK => ?_)
              have e0 := KB12.out.cell 0
              have e1 := KB12.out.cell 1
              have f0 := KB12.out.frozen 0
              have f1 := KB12.out.frozen 1
              simp at e0 e1
              have le := KB12.out.lt
              obtain ⟨v14, hv14⟩ : ∃ v14 : World, v14 = (v12.setCell ⟨v3.heap.size, 0, none⟩ (.int .i64 vars)).setCell ⟨v3.heap.size, 1, none⟩ (.slice R12 (n + 1) cR12) := ⟨_, rfl⟩
              have KB14 : Hid (Blk v14 v3.heap.size 24 #[.int .i64 vars, .slice R12 (n + 1) cR12]) := by rw [hv14]; have := (KB12.out.set_ 0 (.int .i64 vars)).set_ 1 (.slice R12 (n + 1) cR12); simpa [Hid] using this
              have HB14 : Hid (Below wr.heap.size wr v14) := by rw [hv14]; exact below_put2 HB12.out (by omega) _ _
              have OR14 : Hid (Own 41 v14 wr.heap.size R12 (n + 1) cR12 (vs ++ [.slice C p f])) := by rw [hv14]; exact own_box OR12.out KB12.out row_ne_cnf _ _
              go_simp
              rw [← hv14]
              clear hv14 e0 e1 f0 f1 le
              have hS : v14.cell? ⟨w.heap.size, 0, none⟩ = some (.int .i64 vars) ∧ v14.cell? ⟨w.heap.size, 1, none⟩ = some (.slice A n c) := ⟨keepBox HB14.out cK_c_0, keepBox HB14.out cK_c_1⟩
              refine hK _ _ (fun _ => hS) ?_
              clear hK
              (try simp only [Act.put, List.setIfInBounds_toArray, List.set_cons_zero, List.set_cons_succ])
              refine doneT (by kernel_rfl) ?_ _
              have XX := Lib.hid (fin_grid G.out HA.out HB14.out HGV.out OR14.out)
              have k0 := KB14.out.cell 0
              have k1 := KB14.out.cell 1
              simp at k0 k1
              have lk := KB14.out.lt
              have HVx := Lib.hid (HV.out.keep HB14.out)
              have BW := HB14
              have hgb := XX.out.bd
              have BWW := Lib.hid (below_next HB.out BW.out)
              clear K_c K_f G HA
              obtain ⟨wz, hwz⟩ : ∃ wz : World, wz = v14 := ⟨_, rfl⟩
              subst hwz
              rcases HM.out with ⟨hne, hwy⟩ | ⟨hck2, hwy⟩
              · obtain ⟨p1, p2, hcc⟩ : ∃ p1 p2, Hid (checkC vars (xss ++ [cl]) = (p1, p2)) := ⟨_, _, rfl⟩
                rw [hcc.out] at hne hwy
                have hne' : p1 ≠ 0 := hne
                have HWY := Lib.hid hwy
                clear hne hwy
                have d1 : (p1 != 0) = true := by simpa using hne'
                have e1 : (p1 == p1) = true := by simp
                have e2 : (p2 == p2) = true := by simp
                go_wp2_with fail
                refine (take_any _ _ _ _ _ _ (xss ++ [cl]) rs vars wz XX.out hv HVx.out 0 p1 p2 HWY.out false (by show _ = _; simp [hne'])).mono ?_
                rintro e w21 ⟨rfl, hb21⟩
                have a0 := keepBox hb21 k0
                have a1 := keepBox hb21 k1
                have la := (cell_lt a0).1
                have G21 := Lib.hid ((XX.out.keep hb21).keep (below_new w21 (.cells #[.int .i64 p1, .int .i64 p2] 28)))
                have B21 := Lib.hid (below_next BWW.out (below_next hb21 (below_new w21 (.cells #[.int .i64 p1, .int .i64 p2] 28))))
                clear hb21 k0 k1 lk
                go_wp2_with fail
                refine (check_ref _ _ _ (xss ++ [cl]) vars _ G21.out hv p1 p2 hcc).mono ?_
                rintro e w22 ⟨rfl, hb22⟩
                obtain ⟨KT, Bx, _⟩ := blk1 hb22
                have b0 := keepBox Bx a0
                have b1 := keepBox Bx a1
                have t0' := KT.cell 0
                have t1' := KT.cell 1
                simp at t0' t1'
                have G22 := Lib.hid (G21.out.keep hb22)
                have B22 := Lib.hid (below_next B21.out hb22)
                clear hb22 Bx KT a0 a1 la
                go_wp2_with fail
                have Q0 := Lib.hid (show (w22.cell? ⟨w21.heap.size, 0, none⟩ = some (.int .i64 p1) ∧ w22.cell? ⟨w21.heap.size, 1, none⟩ = some (.int .i64 p2) ∧ w22.cell? ⟨v3.heap.size, 0, none⟩ = some (.int .i64 vars) ∧ w22.cell? ⟨v3.heap.size, 1, none⟩ = some (.slice R12 (n + 1) cR12)) ∧ Below w22.heap.size w22 w22 from ⟨⟨t0', t1', b0, b1⟩, Below.refl _ _⟩)
                clear t0' t1' b0 b1
                go_region_held3 (fun w' => (w'.cell? ⟨w21.heap.size, 0, none⟩ = some (.int .i64 p1) ∧ w'.cell? ⟨w21.heap.size, 1, none⟩ = some (.int .i64 p2) ∧ w'.cell? ⟨v3.heap.size, 0, none⟩ = some (.int .i64 vars) ∧ w'.cell? ⟨v3.heap.size, 1, none⟩ = some (.slice R12 (n + 1) cR12)) ∧ Below w22.heap.size w22 w') (first | exact held4 (by assumption) (by assumption) | exact held4 (by assumption) (below_new _ _) | exact held4 (by assumption) (below_drewN _ _) | exact held4 Q0.out (below_drewN _ 1))
                  ((go_at_call 23; (with_reducible refine (check_ref _ _ _ (xss ++ [cl]) vars _ ?_ hv p1 p2 hcc).mono ?_); (exact G22.out.keep (And.right (by assumption))); rintro e w23 ⟨rfl, hb23⟩))
                all_goals
                  go_wp2_with fail
                  go_ret
                  exact ⟨rfl, below_next B22.out (And.right (by assumption))⟩
              · have HWY := Lib.hid hwy
                clear hwy
                go_wp2_with fail
                refine (take_any _ _ _ _ _ _ (xss ++ [cl]) rs vars wz XX.out hv HVx.out (-1) 0 0 HWY.out true (by show _ = _; rfl)).mono ?_
                rintro e w21 ⟨rfl, hb21⟩
                have a0 := keepBox hb21 k0
                have a1 := keepBox hb21 k1
                have la := (cell_lt a0).1
                have G21 := Lib.hid ((XX.out.keep hb21).keep (below_new w21 (.cells #[.int .i64 0, .int .i64 0] 28)))
                have B21 := Lib.hid (below_next BWW.out (below_next hb21 (below_new w21 (.cells #[.int .i64 0, .int .i64 0] 28))))
                clear hb21 k0 k1 lk
                go_wp2_with fail
                refine (check_ref _ _ _ (xss ++ [cl]) vars _ G21.out hv 0 0 hck2).mono ?_
                rintro e w22 ⟨rfl, hb22⟩
                obtain ⟨KT, Bx, _⟩ := blk1 hb22
                have t0' := KT.cell 0
                have t1' := KT.cell 1
                simp at t0' t1'
                have lt' := KT.lt
                have B22 := Lib.hid (below_next B21.out hb22)
                clear hb22 Bx KT a0 a1 la
                go_wp2_with fail
                go_ret
                exact ⟨rfl, B22.out⟩
          · obtain ⟨v15, hv15⟩ : ∃ v15 : World, v15 = v2.alloc (.cells #[.int .i64 0, .slice none 0 0] 24) := ⟨_, rfl⟩
            have bv15 : Below v2.heap.size v2 v15 := by rw [hv15]; exact below_new _ _
            have zv15 : v2.heap.size < v15.heap.size := by rw [hv15]; simp
            have OR15 := Lib.hid (OR2.out.keep bv15)
            have KB15 : Hid (Blk v15 v2.heap.size 24 #[.int .i64 0, .slice none 0 0]) := by rw [hv15]; exact Blk.new _ _ _
            have HB15 := Lib.hid (below_next HB2.out bv15)
            have lw15 := HB15.out.size
            go_simp
            rw [← hv15]
            clear hv15
            have hS : v15.cell? ⟨w.heap.size, 0, none⟩ = some (.int .i64 vars) ∧ v15.cell? ⟨w.heap.size, 1, none⟩ = some (.slice A n c) := ⟨keepBox HB15.out cK_c_0, keepBox HB15.out cK_c_1⟩
            refine hK _ _ (fun _ => hS) ?_
            clear hK
            (try simp only [Act.put, List.setIfInBounds_toArray, List.set_cons_zero, List.set_cons_succ])
            refine oneT (i := 7) (by kernel_rfl) rfl (by rfl) (fun K hK => ?_)
            obtain ⟨v16, hv16⟩ : ∃ v16 : World, v16 = v15.alloc (.cells #[.slice C p f] 41) := ⟨_, rfl⟩
            have bv16 : Below v15.heap.size v15 v16 := by rw [hv16]; exact below_new _ _
            have zv16 : v15.heap.size < v16.heap.size := by rw [hv16]; simp
            have OR16 := Lib.hid (OR15.out.keep bv16)
            have KB16 := Lib.hid (KB15.out.keep bv16)
            have SB16 : Hid (Sl v16 (some ⟨v15.heap.size, 0, none⟩) 1 1 [.slice C p f]) := by rw [hv16]; exact sl_one v15 41 (.slice C p f) rfl
            have NE16 : blockOf R2 ≠ some v15.heap.size := OR15.out.ltb (Nat.le_refl _)
            have HB16 := Lib.hid (below_next HB15.out bv16)
            have lw16 := HB16.out.size
            go_simp
            rw [← hv16]
            clear hv16
            have hS : v16.cell? ⟨w.heap.size, 0, none⟩ = some (.int .i64 vars) ∧ v16.cell? ⟨w.heap.size, 1, none⟩ = some (.slice A n c) := ⟨keepBox HB16.out cK_c_0, keepBox HB16.out cK_c_1⟩
            refine hK _ _ (fun _ => hS) ?_
            clear hK
            (try simp only [Act.put, List.setIfInBounds_toArray, List.set_cons_zero, List.set_cons_succ])
            refine oneT (i := 8) (by kernel_rfl) rfl (by rfl) (fun K hK => ?_)
            refine wp_append_sl _ (.tmp 54) (.tmp 56) 22 rfl wr.heap.size 41 i0 _ 24 Try.underlying22 hi0 hz0 hz1' hz2 rfl R2 n cR2 _ rfl OR16.out (some ⟨v15.heap.size, 0, none⟩) 1 1 [.slice C p f] rfl SB16.out (by simp [Value.oneCell']) (by simp only [maxLen]; omega) (by omega) (by omega) ?_
            intro R17 cR17 v17 hO17 hG17 hA17
            have HB17 : Hid (Below wr.heap.size wr v17) := HB16.out.grown hG17 HB16.out.size (fun k' hk' => own_base OR16.out hk')
            have lw17 := HB17.out.size
            have zg17 := hG17.size
            have OR17 : Hid (Own 41 v17 wr.heap.size R17 (n + 1) cR17 (vs ++ [.slice C p f])) := by simpa [Hid] using hO17
            have KB17 : Hid (Blk v17 v2.heap.size 24 #[.int .i64 0, .slice none 0 0]) := KB16.out.grown hG17 (fun e => (OR16.out.ne_typed (Typed.of_blk KB16.out) row_ne_cnf).elim (fun h => by rw [h] at e; cases e) (fun h => h e.symm))
            clear hO17 hG17 hA17
            have hS : v17.cell? ⟨w.heap.size, 0, none⟩ = some (.int .i64 vars) ∧ v17.cell? ⟨w.heap.size, 1, none⟩ = some (.slice A n c) := ⟨keepBox HB17.out cK_c_0, keepBox HB17.out cK_c_1⟩
            refine hK _ _ (fun _ => hS) ?_
            clear hK
            (try simp only [Act.put, List.setIfInBounds_toArray, List.set_cons_zero, List.set_cons_succ])
            (try simp only [Nat.zero_add])
            refine oneT (i := 9) (by kernel_rfl) rfl (by rfl) (fun K hK => ?_)
            go_simp
            have hS : v17.cell? ⟨w.heap.size, 0, none⟩ = some (.int .i64 vars) ∧ v17.cell? ⟨w.heap.size, 1, none⟩ = some (.slice A n c) := ⟨keepBox HB17.out cK_c_0, keepBox HB17.out cK_c_1⟩
            refine hK _ _ (fun _ => hS) ?_
            clear hK
            (try simp only [Act.put, List.setIfInBounds_toArray, List.set_cons_zero, List.set_cons_succ])
            refine oneT (i := 11) (by kernel_rfl) rfl (by rfl) (fun K hK => ?_)
            have e0 := KB17.out.cell 0
            have e1 := KB17.out.cell 1
            have f0 := KB17.out.frozen 0
            have f1 := KB17.out.frozen 1
            simp at e0 e1
            have le := KB17.out.lt
            obtain ⟨v19, hv19⟩ : ∃ v19 : World, v19 = (v17.setCell ⟨v2.heap.size, 0, none⟩ (.int .i64 vars)).setCell ⟨v2.heap.size, 1, none⟩ (.slice R17 (n + 1) cR17) := ⟨_, rfl⟩
            have KB19 : Hid (Blk v19 v2.heap.size 24 #[.int .i64 vars, .slice R17 (n + 1) cR17]) := by rw [hv19]; have := (KB17.out.set_ 0 (.int .i64 vars)).set_ 1 (.slice R17 (n + 1) cR17); simpa [Hid] using this
            have HB19 : Hid (Below wr.heap.size wr v19) := by rw [hv19]; exact below_put2 HB17.out (by omega) _ _
            have OR19 : Hid (Own 41 v19 wr.heap.size R17 (n + 1) cR17 (vs ++ [.slice C p f])) := by rw [hv19]; exact own_box OR17.out KB17.out row_ne_cnf _ _
            go_simp
            rw [← hv19]
            clear hv19 e0 e1 f0 f1 le
            have hS : v19.cell? ⟨w.heap.size, 0, none⟩ = some (.int .i64 vars) ∧ v19.cell? ⟨w.heap.size, 1, none⟩ = some (.slice A n c) := ⟨keepBox HB19.out cK_c_0, keepBox HB19.out cK_c_1⟩
            refine hK _ _ (fun _ => hS) ?_
            clear hK
            (try simp only [Act.put, List.setIfInBounds_toArray, List.set_cons_zero, List.set_cons_succ])
            refine doneT (by kernel_rfl) ?_ _
            have XX := Lib.hid (fin_grid G.out HA.out HB19.out HGV.out OR19.out)
            have k0 := KB19.out.cell 0
            have k1 := KB19.out.cell 1
            simp at k0 k1
            have lk := KB19.out.lt
            have HVx := Lib.hid (HV.out.keep HB19.out)
            have BW := HB19
            have hgb := XX.out.bd
            have BWW := Lib.hid (below_next HB.out BW.out)
            clear K_c K_f G HA
            obtain ⟨wz, hwz⟩ : ∃ wz : World, wz = v19 := ⟨_, rfl⟩
            subst hwz
            rcases HM.out with ⟨hne, hwy⟩ | ⟨hck2, hwy⟩
            · obtain ⟨p1, p2, hcc⟩ : ∃ p1 p2, Hid (checkC vars (xss ++ [cl]) = (p1, p2)) := ⟨_, _, rfl⟩
              rw [hcc.out] at hne hwy
              have hne' : p1 ≠ 0 := hne
              have HWY := Lib.hid hwy
              clear hne hwy
              have d1 : (p1 != 0) = true := by simpa using hne'
              have e1 : (p1 == p1) = true := by simp
              have e2 : (p2 == p2) = true := by simp
              go_wp2_with fail
              refine (take_any _ _ _ _ _ _ (xss ++ [cl]) rs vars wz XX.out hv HVx.out 0 p1 p2 HWY.out false (by show _ = _; simp [hne'])).mono ?_
              rintro e w21 ⟨rfl, hb21⟩
              have a0 := keepBox hb21 k0
              have a1 := keepBox hb21 k1
              have la := (cell_lt a0).1
              have G21 := Lib.hid ((XX.out.keep hb21).keep (below_new w21 (.cells #[.int .i64 p1, .int .i64 p2] 28)))
              have B21 := Lib.hid (below_next BWW.out (below_next hb21 (below_new w21 (.cells #[.int .i64 p1, .int .i64 p2] 28))))
              clear hb21 k0 k1 lk
              go_wp2_with fail
              refine (check_ref _ _ _ (xss ++ [cl]) vars _ G21.out hv p1 p2 hcc).mono ?_
              rintro e w22 ⟨rfl, hb22⟩
              obtain ⟨KT, Bx, _⟩ := blk1 hb22
              have b0 := keepBox Bx a0
              have b1 := keepBox Bx a1
              have t0' := KT.cell 0
              have t1' := KT.cell 1
              simp at t0' t1'
              have G22 := Lib.hid (G21.out.keep hb22)
              have B22 := Lib.hid (below_next B21.out hb22)
              clear hb22 Bx KT a0 a1 la
              go_wp2_with fail
              have Q0 := Lib.hid (show (w22.cell? ⟨w21.heap.size, 0, none⟩ = some (.int .i64 p1) ∧ w22.cell? ⟨w21.heap.size, 1, none⟩ = some (.int .i64 p2) ∧ w22.cell? ⟨v2.heap.size, 0, none⟩ = some (.int .i64 vars) ∧ w22.cell? ⟨v2.heap.size, 1, none⟩ = some (.slice R17 (n + 1) cR17)) ∧ Below w22.heap.size w22 w22 from ⟨⟨t0', t1', b0, b1⟩, Below.refl _ _⟩)
              clear t0' t1' b0 b1
              go_region_held3 (fun w' => (w'.cell? ⟨w21.heap.size, 0, none⟩ = some (.int .i64 p1) ∧ w'.cell? ⟨w21.heap.size, 1, none⟩ = some (.int .i64 p2) ∧ w'.cell? ⟨v2.heap.size, 0, none⟩ = some (.int .i64 vars) ∧ w'.cell? ⟨v2.heap.size, 1, none⟩ = some (.slice R17 (n + 1) cR17)) ∧ Below w22.heap.size w22 w') (first | exact held4 (by assumption) (by assumption) | exact held4 (by assumption) (below_new _ _) | exact held4 (by assumption) (below_drewN _ _) | exact held4 Q0.out (below_drewN _ 1))
                ((go_at_call 23; (with_reducible refine (check_ref _ _ _ (xss ++ [cl]) vars _ ?_ hv p1 p2 hcc).mono ?_); (exact G22.out.keep (And.right (by assumption))); rintro e w23 ⟨rfl, hb23⟩))
              all_goals
                go_wp2_with fail
                go_ret
                exact ⟨rfl, below_next B22.out (And.right (by assumption))⟩
            · have HWY := Lib.hid hwy
              clear hwy
              go_wp2_with fail
              refine (take_any _ _ _ _ _ _ (xss ++ [cl]) rs vars wz XX.out hv HVx.out (-1) 0 0 HWY.out true (by show _ = _; rfl)).mono ?_
              rintro e w21 ⟨rfl, hb21⟩
              have a0 := keepBox hb21 k0
              have a1 := keepBox hb21 k1
              have la := (cell_lt a0).1
              have G21 := Lib.hid ((XX.out.keep hb21).keep (below_new w21 (.cells #[.int .i64 0, .int .i64 0] 28)))
              have B21 := Lib.hid (below_next BWW.out (below_next hb21 (below_new w21 (.cells #[.int .i64 0, .int .i64 0] 28))))
              clear hb21 k0 k1 lk
              go_wp2_with fail
              refine (check_ref _ _ _ (xss ++ [cl]) vars _ G21.out hv 0 0 hck2).mono ?_
              rintro e w22 ⟨rfl, hb22⟩
              obtain ⟨KT, Bx, _⟩ := blk1 hb22
              have t0' := KT.cell 0
              have t1' := KT.cell 1
              simp at t0' t1'
              have lt' := KT.lt
              have B22 := Lib.hid (below_next B21.out hb22)
              clear hb22 Bx KT a0 a1 la
              go_wp2_with fail
              go_ret
              exact ⟨rfl, B22.out⟩
        · obtain ⟨v20, hv20⟩ : ∃ v20 : World, v20 = v1.alloc (.cells #[.slice C p f] 41) := ⟨_, rfl⟩
          have bv20 : Below v1.heap.size v1 v20 := by rw [hv20]; exact below_new _ _
          have zv20 : v1.heap.size < v20.heap.size := by rw [hv20]; simp
          have OR20 := Lib.hid (OR1.out.keep bv20)
          have SB20 : Hid (Sl v20 (some ⟨v1.heap.size, 0, none⟩) 1 1 [.slice C p f]) := by rw [hv20]; exact sl_one v1 41 (.slice C p f) rfl
          have NE20 : blockOf (some ⟨v0.heap.size, 0, none⟩) ≠ some v1.heap.size := OR1.out.ltb (Nat.le_refl _)
          have HB20 := Lib.hid (below_next HB1.out bv20)
          have lw20 := HB20.out.size
          go_simp
          rw [← hv20]
          clear hv20
          have hS : v20.cell? ⟨w.heap.size, 0, none⟩ = some (.int .i64 vars) ∧ v20.cell? ⟨w.heap.size, 1, none⟩ = some (.slice A n c) := ⟨keepBox HB20.out cK_c_0, keepBox HB20.out cK_c_1⟩
          refine hK _ _ (fun _ => hS) ?_
          clear hK
          (try simp only [Act.put, List.setIfInBounds_toArray, List.set_cons_zero, List.set_cons_succ])
          refine twoT (i := 5) (j := 10) (by kernel_rfl) rfl (by rfl) rfl (by rfl) (fun K hK => ?_) (fun K hK => ?_)
          · refine wp_append_sl _ (.tmp 51) (.tmp 53) 22 rfl wr.heap.size 41 i0 _ 24 Try.underlying22 hi0 hz0 hz1' hz2 rfl (some ⟨v0.heap.size, 0, none⟩) 0 0 _ rfl OR20.out A n c vs rfl (HSL.out.keep HB20.out) HONE.out (by simp only [maxLen]; omega) (by omega) (by omega) ?_
            intro R21 cR21 v21 hO21 hG21 hA21
            have HB21 : Hid (Below wr.heap.size wr v21) := HB20.out.grown hG21 HB20.out.size (fun k' hk' => own_base OR20.out hk')
            have lw21 := HB21.out.size
            have zg21 := hG21.size
            have OR21 : Hid (Own 41 v21 wr.heap.size R21 n cR21 vs) := by simpa [Hid] using hO21
            have SB21 : Hid (Sl v21 (some ⟨v1.heap.size, 0, none⟩) 1 1 [.slice C p f]) := SB20.out.kept' hG21 (fun e => NE20 e)
            have NE21 : blockOf R21 ≠ some v1.heap.size := hA21.elim (fun e => by rw [e]; exact NE20) (fun e => by rw [e]; simp; omega)
            clear hO21 hG21 hA21
            have hS : v21.cell? ⟨w.heap.size, 0, none⟩ = some (.int .i64 vars) ∧ v21.cell? ⟨w.heap.size, 1, none⟩ = some (.slice A n c) := ⟨keepBox HB21.out cK_c_0, keepBox HB21.out cK_c_1⟩
            refine hK _ _ (fun _ => hS) ?_
            clear hK
            (try simp only [Act.put, List.setIfInBounds_toArray, List.set_cons_zero, List.set_cons_succ])
            (try simp only [Nat.zero_add])
            refine twoT (i := 8) (j := 10) (by kernel_rfl) rfl (by rfl) rfl (by rfl) (fun K hK => ?_) (fun K hK => ?_)
            · refine wp_append_sl _ (.tmp 54) (.tmp 56) 22 rfl wr.heap.size 41 i0 _ 24 Try.underlying22 hi0 hz0 hz1' hz2 rfl R21 n cR21 _ rfl OR21.out (some ⟨v1.heap.size, 0, none⟩) 1 1 [.slice C p f] rfl SB21.out (by simp [Value.oneCell']) (by simp only [maxLen]; omega) (by omega) (by omega) ?_
              intro R22 cR22 v22 hO22 hG22 hA22
              have HB22 : Hid (Below wr.heap.size wr v22) := HB21.out.grown hG22 HB21.out.size (fun k' hk' => own_base OR21.out hk')
              have lw22 := HB22.out.size
              have zg22 := hG22.size
              have OR22 : Hid (Own 41 v22 wr.heap.size R22 (n + 1) cR22 (vs ++ [.slice C p f])) := by simpa [Hid] using hO22
              clear hO22 hG22 hA22
              have hS : v22.cell? ⟨w.heap.size, 0, none⟩ = some (.int .i64 vars) ∧ v22.cell? ⟨w.heap.size, 1, none⟩ = some (.slice A n c) := ⟨keepBox HB22.out cK_c_0, keepBox HB22.out cK_c_1⟩
              refine hK _ _ (fun _ => hS) ?_
              clear hK
              (try simp only [Act.put, List.setIfInBounds_toArray, List.set_cons_zero, List.set_cons_succ])
              (try simp only [Nat.zero_add])
              refine twoT (i := 9) (j := 10) (by kernel_rfl) rfl (by rfl) rfl (by rfl) (fun K hK => ?_) (fun K hK => ?_)
              · go_simp
                have hS : v22.cell? ⟨w.heap.size, 0, none⟩ = some (.int .i64 vars) ∧ v22.cell? ⟨w.heap.size, 1, none⟩ = some (.slice A n c) := ⟨keepBox HB22.out cK_c_0, keepBox HB22.out cK_c_1⟩
                refine hK _ _ (fun _ => hS) ?_
                clear hK
                (try simp only [Act.put, List.setIfInBounds_toArray, List.set_cons_zero, List.set_cons_succ])
                refine oneT (i := 10) (by kernel_rfl) rfl (by rfl) (fun K hK => ?_)
                obtain ⟨v24, hv24⟩ : ∃ v24 : World, v24 = v22.alloc (.cells #[.int .i64 0, .slice none 0 0] 24) := ⟨_, rfl⟩
                have bv24 : Below v22.heap.size v22 v24 := by rw [hv24]; exact below_new _ _
                have zv24 : v22.heap.size < v24.heap.size := by rw [hv24]; simp
                have OR24 := Lib.hid (OR22.out.keep bv24)
                have KB24 : Hid (Blk v24 v22.heap.size 24 #[.int .i64 0, .slice none 0 0]) := by rw [hv24]; exact Blk.new _ _ _
                have HB24 := Lib.hid (below_next HB22.out bv24)
                have lw24 := HB24.out.size
                go_simp
                rw [← hv24]
                clear hv24
                have hS : v24.cell? ⟨w.heap.size, 0, none⟩ = some (.int .i64 vars) ∧ v24.cell? ⟨w.heap.size, 1, none⟩ = some (.slice A n c) := ⟨keepBox HB24.out cK_c_0, keepBox HB24.out cK_c_1⟩
                refine hK _ _ (fun _ => hS) ?_
                clear hK
                (try simp only [Act.put, List.setIfInBounds_toArray, List.set_cons_zero, List.set_cons_succ])
                refine oneT (i := 11) (by kernel_rfl) rfl (by rfl) (fun K hK => ?_)
                have e0 := KB24.out.cell 0
                have e1 := KB24.out.cell 1
                have f0 := KB24.out.frozen 0
                have f1 := KB24.out.frozen 1
                simp at e0 e1
                have le := KB24.out.lt
                obtain ⟨v25, hv25⟩ : ∃ v25 : World, v25 = (v24.setCell ⟨v22.heap.size, 0, none⟩ (.int .i64 vars)).setCell ⟨v22.heap.size, 1, none⟩ (.slice R22 (n + 1) cR22) := ⟨_, rfl⟩
                have KB25 : Hid (Blk v25 v22.heap.size 24 #[.int .i64 vars, .slice R22 (n + 1) cR22]) := by rw [hv25]; have := (KB24.out.set_ 0 (.int .i64 vars)).set_ 1 (.slice R22 (n + 1) cR22); simpa [Hid] using this
                have HB25 : Hid (Below wr.heap.size wr v25) := by rw [hv25]; exact below_put2 HB24.out (by omega) _ _
                have OR25 : Hid (Own 41 v25 wr.heap.size R22 (n + 1) cR22 (vs ++ [.slice C p f])) := by rw [hv25]; exact own_box OR24.out KB24.out row_ne_cnf _ _
                go_simp
                rw [← hv25]
                clear hv25 e0 e1 f0 f1 le
                have hS : v25.cell? ⟨w.heap.size, 0, none⟩ = some (.int .i64 vars) ∧ v25.cell? ⟨w.heap.size, 1, none⟩ = some (.slice A n c) := ⟨keepBox HB25.out cK_c_0, keepBox HB25.out cK_c_1⟩
                refine hK _ _ (fun _ => hS) ?_
                clear hK
                (try simp only [Act.put, List.setIfInBounds_toArray, List.set_cons_zero, List.set_cons_succ])
                refine doneT (by kernel_rfl) ?_ _
                have XX := Lib.hid (fin_grid G.out HA.out HB25.out HGV.out OR25.out)
                have k0 := KB25.out.cell 0
                have k1 := KB25.out.cell 1
                simp at k0 k1
                have lk := KB25.out.lt
                have HVx := Lib.hid (HV.out.keep HB25.out)
                have BW := HB25
                have hgb := XX.out.bd
                have BWW := Lib.hid (below_next HB.out BW.out)
                clear K_c K_f G HA
                obtain ⟨wz, hwz⟩ : ∃ wz : World, wz = v25 := ⟨_, rfl⟩
                subst hwz
                rcases HM.out with ⟨hne, hwy⟩ | ⟨hck2, hwy⟩
                · obtain ⟨p1, p2, hcc⟩ : ∃ p1 p2, Hid (checkC vars (xss ++ [cl]) = (p1, p2)) := ⟨_, _, rfl⟩
                  rw [hcc.out] at hne hwy
                  have hne' : p1 ≠ 0 := hne
                  have HWY := Lib.hid hwy
                  clear hne hwy
                  have d1 : (p1 != 0) = true := by simpa using hne'
                  have e1 : (p1 == p1) = true := by simp
                  have e2 : (p2 == p2) = true := by simp
                  go_wp2_with fail
                  refine (take_any _ _ _ _ _ _ (xss ++ [cl]) rs vars wz XX.out hv HVx.out 0 p1 p2 HWY.out false (by show _ = _; simp [hne'])).mono ?_
                  rintro e w21 ⟨rfl, hb21⟩
                  have a0 := keepBox hb21 k0
                  have a1 := keepBox hb21 k1
                  have la := (cell_lt a0).1
                  have G21 := Lib.hid ((XX.out.keep hb21).keep (below_new w21 (.cells #[.int .i64 p1, .int .i64 p2] 28)))
                  have B21 := Lib.hid (below_next BWW.out (below_next hb21 (below_new w21 (.cells #[.int .i64 p1, .int .i64 p2] 28))))
                  clear hb21 k0 k1 lk
                  go_wp2_with fail
                  refine (check_ref _ _ _ (xss ++ [cl]) vars _ G21.out hv p1 p2 hcc).mono ?_
                  rintro e w22 ⟨rfl, hb22⟩
                  obtain ⟨KT, Bx, _⟩ := blk1 hb22
                  have b0 := keepBox Bx a0
                  have b1 := keepBox Bx a1
                  have t0' := KT.cell 0
                  have t1' := KT.cell 1
                  simp at t0' t1'
                  have G22 := Lib.hid (G21.out.keep hb22)
                  have B22 := Lib.hid (below_next B21.out hb22)
                  clear hb22 Bx KT a0 a1 la
                  go_wp2_with fail
                  have Q0 := Lib.hid (show (w22.cell? ⟨w21.heap.size, 0, none⟩ = some (.int .i64 p1) ∧ w22.cell? ⟨w21.heap.size, 1, none⟩ = some (.int .i64 p2) ∧ w22.cell? ⟨v22.heap.size, 0, none⟩ = some (.int .i64 vars) ∧ w22.cell? ⟨v22.heap.size, 1, none⟩ = some (.slice R22 (n + 1) cR22)) ∧ Below w22.heap.size w22 w22 from ⟨⟨t0', t1', b0, b1⟩, Below.refl _ _⟩)
                  clear t0' t1' b0 b1
                  go_region_held3 (fun w' => (w'.cell? ⟨w21.heap.size, 0, none⟩ = some (.int .i64 p1) ∧ w'.cell? ⟨w21.heap.size, 1, none⟩ = some (.int .i64 p2) ∧ w'.cell? ⟨v22.heap.size, 0, none⟩ = some (.int .i64 vars) ∧ w'.cell? ⟨v22.heap.size, 1, none⟩ = some (.slice R22 (n + 1) cR22)) ∧ Below w22.heap.size w22 w') (first | exact held4 (by assumption) (by assumption) | exact held4 (by assumption) (below_new _ _) | exact held4 (by assumption) (below_drewN _ _) | exact held4 Q0.out (below_drewN _ 1))
                    ((go_at_call 23; (with_reducible refine (check_ref _ _ _ (xss ++ [cl]) vars _ ?_ hv p1 p2 hcc).mono ?_); (exact G22.out.keep (And.right (by assumption))); rintro e w23 ⟨rfl, hb23⟩))
                  all_goals
                    go_wp2_with fail
                    go_ret
                    exact ⟨rfl, below_next B22.out (And.right (by assumption))⟩
                · have HWY := Lib.hid hwy
                  clear hwy
                  go_wp2_with fail
                  refine (take_any _ _ _ _ _ _ (xss ++ [cl]) rs vars wz XX.out hv HVx.out (-1) 0 0 HWY.out true (by show _ = _; rfl)).mono ?_
                  rintro e w21 ⟨rfl, hb21⟩
                  have a0 := keepBox hb21 k0
                  have a1 := keepBox hb21 k1
                  have la := (cell_lt a0).1
                  have G21 := Lib.hid ((XX.out.keep hb21).keep (below_new w21 (.cells #[.int .i64 0, .int .i64 0] 28)))
                  have B21 := Lib.hid (below_next BWW.out (below_next hb21 (below_new w21 (.cells #[.int .i64 0, .int .i64 0] 28))))
                  clear hb21 k0 k1 lk
                  go_wp2_with fail
                  refine (check_ref _ _ _ (xss ++ [cl]) vars _ G21.out hv 0 0 hck2).mono ?_
                  rintro e w22 ⟨rfl, hb22⟩
                  obtain ⟨KT, Bx, _⟩ := blk1 hb22
                  have t0' := KT.cell 0
                  have t1' := KT.cell 1
                  simp at t0' t1'
                  have lt' := KT.lt
                  have B22 := Lib.hid (below_next B21.out hb22)
                  clear hb22 Bx KT a0 a1 la
                  go_wp2_with fail
                  go_ret
                  exact ⟨rfl, B22.out⟩
              · obtain ⟨v26, hv26⟩ : ∃ v26 : World, v26 = v22.alloc (.cells #[.int .i64 0, .slice none 0 0] 24) := ⟨_, rfl⟩
                have bv26 : Below v22.heap.size v22 v26 := by rw [hv26]; exact below_new _ _
                have zv26 : v22.heap.size < v26.heap.size := by rw [hv26]; simp
                have OR26 := Lib.hid (OR22.out.keep bv26)
                have KB26 : Hid (Blk v26 v22.heap.size 24 #[.int .i64 0, .slice none 0 0]) := by rw [hv26]; exact Blk.new _ _ _
                have HB26 := Lib.hid (below_next HB22.out bv26)
                have lw26 := HB26.out.size
                go_simp
                rw [← hv26]
                clear hv26
                have hS : v26.cell? ⟨w.heap.size, 0, none⟩ = some (.int .i64 vars) ∧ v26.cell? ⟨w.heap.size, 1, none⟩ = some (.slice A n c) := ⟨keepBox HB26.out cK_c_0, keepBox HB26.out cK_c_1⟩
                refine hK _ _ (fun _ => hS) ?_
                clear hK
                (try simp only [Act.put, List.setIfInBounds_toArray, List.set_cons_zero, List.set_cons_succ])
                refine oneT (i := 9) (by kernel_rfl) rfl (by rfl) (fun K hK => ?_)
                go_simp
                have hS : v26.cell? ⟨w.heap.size, 0, none⟩ = some (.int .i64 vars) ∧ v26.cell? ⟨w.heap.size, 1, none⟩ = some (.slice A n c) := ⟨keepBox HB26.out cK_c_0, keepBox HB26.out cK_c_1⟩
                refine hK _ _ (fun _ => hS) ?_
                clear hK
                (try simp only [Act.put, List.setIfInBounds_toArray, List.set_cons_zero, List.set_cons_succ])
                refine oneT (i := 11) (by kernel_rfl) rfl (by rfl) (fun K hK => ?_)
                have e0 := KB26.out.cell 0
                have e1 := KB26.out.cell 1
                have f0 := KB26.out.frozen 0
                have f1 := KB26.out.frozen 1
                simp at e0 e1
                have le := KB26.out.lt
                obtain ⟨v28, hv28⟩ : ∃ v28 : World, v28 = (v26.setCell ⟨v22.heap.size, 0, none⟩ (.int .i64 vars)).setCell ⟨v22.heap.size, 1, none⟩ (.slice R22 (n + 1) cR22) := ⟨_, rfl⟩
                have KB28 : Hid (Blk v28 v22.heap.size 24 #[.int .i64 vars, .slice R22 (n + 1) cR22]) := by rw [hv28]; have := (KB26.out.set_ 0 (.int .i64 vars)).set_ 1 (.slice R22 (n + 1) cR22); simpa [Hid] using this
                have HB28 : Hid (Below wr.heap.size wr v28) := by rw [hv28]; exact below_put2 HB26.out (by omega) _ _
                have OR28 : Hid (Own 41 v28 wr.heap.size R22 (n + 1) cR22 (vs ++ [.slice C p f])) := by rw [hv28]; exact own_box OR26.out KB26.out row_ne_cnf _ _
                go_simp
                rw [← hv28]
                clear hv28 e0 e1 f0 f1 le
                have hS : v28.cell? ⟨w.heap.size, 0, none⟩ = some (.int .i64 vars) ∧ v28.cell? ⟨w.heap.size, 1, none⟩ = some (.slice A n c) := ⟨keepBox HB28.out cK_c_0, keepBox HB28.out cK_c_1⟩
                refine hK _ _ (fun _ => hS) ?_
                clear hK
                (try simp only [Act.put, List.setIfInBounds_toArray, List.set_cons_zero, List.set_cons_succ])
                refine doneT (by kernel_rfl) ?_ _
                have XX := Lib.hid (fin_grid G.out HA.out HB28.out HGV.out OR28.out)
                have k0 := KB28.out.cell 0
                have k1 := KB28.out.cell 1
                simp at k0 k1
                have lk := KB28.out.lt
                have HVx := Lib.hid (HV.out.keep HB28.out)
                have BW := HB28
                have hgb := XX.out.bd
                have BWW := Lib.hid (below_next HB.out BW.out)
                clear K_c K_f G HA
                obtain ⟨wz, hwz⟩ : ∃ wz : World, wz = v28 := ⟨_, rfl⟩
                subst hwz
                rcases HM.out with ⟨hne, hwy⟩ | ⟨hck2, hwy⟩
                · obtain ⟨p1, p2, hcc⟩ : ∃ p1 p2, Hid (checkC vars (xss ++ [cl]) = (p1, p2)) := ⟨_, _, rfl⟩
                  rw [hcc.out] at hne hwy
                  have hne' : p1 ≠ 0 := hne
                  have HWY := Lib.hid hwy
                  clear hne hwy
                  have d1 : (p1 != 0) = true := by simpa using hne'
                  have e1 : (p1 == p1) = true := by simp
                  have e2 : (p2 == p2) = true := by simp
                  go_wp2_with fail
                  refine (take_any _ _ _ _ _ _ (xss ++ [cl]) rs vars wz XX.out hv HVx.out 0 p1 p2 HWY.out false (by show _ = _; simp [hne'])).mono ?_
                  rintro e w21 ⟨rfl, hb21⟩
                  have a0 := keepBox hb21 k0
                  have a1 := keepBox hb21 k1
                  have la := (cell_lt a0).1
                  have G21 := Lib.hid ((XX.out.keep hb21).keep (below_new w21 (.cells #[.int .i64 p1, .int .i64 p2] 28)))
                  have B21 := Lib.hid (below_next BWW.out (below_next hb21 (below_new w21 (.cells #[.int .i64 p1, .int .i64 p2] 28))))
                  clear hb21 k0 k1 lk
                  go_wp2_with fail
                  refine (check_ref _ _ _ (xss ++ [cl]) vars _ G21.out hv p1 p2 hcc).mono ?_
                  rintro e w22 ⟨rfl, hb22⟩
                  obtain ⟨KT, Bx, _⟩ := blk1 hb22
                  have b0 := keepBox Bx a0
                  have b1 := keepBox Bx a1
                  have t0' := KT.cell 0
                  have t1' := KT.cell 1
                  simp at t0' t1'
                  have G22 := Lib.hid (G21.out.keep hb22)
                  have B22 := Lib.hid (below_next B21.out hb22)
                  clear hb22 Bx KT a0 a1 la
                  go_wp2_with fail
                  have Q0 := Lib.hid (show (w22.cell? ⟨w21.heap.size, 0, none⟩ = some (.int .i64 p1) ∧ w22.cell? ⟨w21.heap.size, 1, none⟩ = some (.int .i64 p2) ∧ w22.cell? ⟨v22.heap.size, 0, none⟩ = some (.int .i64 vars) ∧ w22.cell? ⟨v22.heap.size, 1, none⟩ = some (.slice R22 (n + 1) cR22)) ∧ Below w22.heap.size w22 w22 from ⟨⟨t0', t1', b0, b1⟩, Below.refl _ _⟩)
                  clear t0' t1' b0 b1
                  go_region_held3 (fun w' => (w'.cell? ⟨w21.heap.size, 0, none⟩ = some (.int .i64 p1) ∧ w'.cell? ⟨w21.heap.size, 1, none⟩ = some (.int .i64 p2) ∧ w'.cell? ⟨v22.heap.size, 0, none⟩ = some (.int .i64 vars) ∧ w'.cell? ⟨v22.heap.size, 1, none⟩ = some (.slice R22 (n + 1) cR22)) ∧ Below w22.heap.size w22 w') (first | exact held4 (by assumption) (by assumption) | exact held4 (by assumption) (below_new _ _) | exact held4 (by assumption) (below_drewN _ _) | exact held4 Q0.out (below_drewN _ 1))
                    ((go_at_call 23; (with_reducible refine (check_ref _ _ _ (xss ++ [cl]) vars _ ?_ hv p1 p2 hcc).mono ?_); (exact G22.out.keep (And.right (by assumption))); rintro e w23 ⟨rfl, hb23⟩))
                  all_goals
                    go_wp2_with fail
                    go_ret
                    exact ⟨rfl, below_next B22.out (And.right (by assumption))⟩
                · have HWY := Lib.hid hwy
                  clear hwy
                  go_wp2_with fail
                  refine (take_any _ _ _ _ _ _ (xss ++ [cl]) rs vars wz XX.out hv HVx.out (-1) 0 0 HWY.out true (by show _ = _; rfl)).mono ?_
                  rintro e w21 ⟨rfl, hb21⟩
                  have a0 := keepBox hb21 k0
                  have a1 := keepBox hb21 k1
                  have la := (cell_lt a0).1
                  have G21 := Lib.hid ((XX.out.keep hb21).keep (below_new w21 (.cells #[.int .i64 0, .int .i64 0] 28)))
                  have B21 := Lib.hid (below_next BWW.out (below_next hb21 (below_new w21 (.cells #[.int .i64 0, .int .i64 0] 28))))
                  clear hb21 k0 k1 lk
                  go_wp2_with fail
                  refine (check_ref _ _ _ (xss ++ [cl]) vars _ G21.out hv 0 0 hck2).mono ?_
                  rintro e w22 ⟨rfl, hb22⟩
                  obtain ⟨KT, Bx, _⟩ := blk1 hb22
                  have t0' := KT.cell 0
                  have t1' := KT.cell 1
                  simp at t0' t1'
                  have lt' := KT.lt
                  have B22 := Lib.hid (below_next B21.out hb22)
                  clear hb22 Bx KT a0 a1 la
                  go_wp2_with fail
                  go_ret
                  exact ⟨rfl, B22.out⟩
            · obtain ⟨v29, hv29⟩ : ∃ v29 : World, v29 = v21.alloc (.cells #[.int .i64 0, .slice none 0 0] 24) := ⟨_, rfl⟩
              have bv29 : Below v21.heap.size v21 v29 := by rw [hv29]; exact below_new _ _
              have zv29 : v21.heap.size < v29.heap.size := by rw [hv29]; simp
              have OR29 := Lib.hid (OR21.out.keep bv29)
              have SB29 := Lib.hid (SB21.out.keep bv29)
              have KB29 : Hid (Blk v29 v21.heap.size 24 #[.int .i64 0, .slice none 0 0]) := by rw [hv29]; exact Blk.new _ _ _
              have HB29 := Lib.hid (below_next HB21.out bv29)
              have lw29 := HB29.out.size
              go_simp
              rw [← hv29]
              clear hv29
              have hS : v29.cell? ⟨w.heap.size, 0, none⟩ = some (.int .i64 vars) ∧ v29.cell? ⟨w.heap.size, 1, none⟩ = some (.slice A n c) := ⟨keepBox HB29.out cK_c_0, keepBox HB29.out cK_c_1⟩
              refine hK _ _ (fun _ => hS) ?_
              clear hK
              (try simp only [Act.put, List.setIfInBounds_toArray, List.set_cons_zero, List.set_cons_succ])
              refine oneT (i := 8) (by kernel_rfl) rfl (by rfl) (fun K hK => ?_)
              refine wp_append_sl _ (.tmp 54) (.tmp 56) 22 rfl wr.heap.size 41 i0 _ 24 Try.underlying22 hi0 hz0 hz1' hz2 rfl R21 n cR21 _ rfl OR29.out (some ⟨v1.heap.size, 0, none⟩) 1 1 [.slice C p f] rfl SB29.out (by simp [Value.oneCell']) (by simp only [maxLen]; omega) (by omega) (by omega) ?_
              intro R30 cR30 v30 hO30 hG30 hA30
              have HB30 : Hid (Below wr.heap.size wr v30) := HB29.out.grown hG30 HB29.out.size (fun k' hk' => own_base OR29.out hk')
              have lw30 := HB30.out.size
              have zg30 := hG30.size
              have OR30 : Hid (Own 41 v30 wr.heap.size R30 (n + 1) cR30 (vs ++ [.slice C p f])) := by simpa [Hid] using hO30
              have KB30 : Hid (Blk v30 v21.heap.size 24 #[.int .i64 0, .slice none 0 0]) := KB29.out.grown hG30 (fun e => (OR29.out.ne_typed (Typed.of_blk KB29.out) row_ne_cnf).elim (fun h => by rw [h] at e; cases e) (fun h => h e.symm))
              clear hO30 hG30 hA30
              have hS : v30.cell? ⟨w.heap.size, 0, none⟩ = some (.int .i64 vars) ∧ v30.cell? ⟨w.heap.size, 1, none⟩ = some (.slice A n c) := ⟨keepBox HB30.out cK_c_0, keepBox HB30.out cK_c_1⟩
              refine hK _ _ (fun _ => hS) ?_
              clear hK
              (try simp only [Act.put, List.setIfInBounds_toArray, List.set_cons_zero, List.set_cons_succ])
              (try simp only [Nat.zero_add])
              refine oneT (i := 9) (by kernel_rfl) rfl (by rfl) (fun K hK => ?_)
              go_simp
              have hS : v30.cell? ⟨w.heap.size, 0, none⟩ = some (.int .i64 vars) ∧ v30.cell? ⟨w.heap.size, 1, none⟩ = some (.slice A n c) := ⟨keepBox HB30.out cK_c_0, keepBox HB30.out cK_c_1⟩
              refine hK _ _ (fun _ => hS) ?_
              clear hK
              (try simp only [Act.put, List.setIfInBounds_toArray, List.set_cons_zero, List.set_cons_succ])
              refine oneT (i := 11) (by kernel_rfl) rfl (by rfl) (fun K hK => ?_)
              have e0 := KB30.out.cell 0
              have e1 := KB30.out.cell 1
              have f0 := KB30.out.frozen 0
              have f1 := KB30.out.frozen 1
              simp at e0 e1
              have le := KB30.out.lt
              obtain ⟨v32, hv32⟩ : ∃ v32 : World, v32 = (v30.setCell ⟨v21.heap.size, 0, none⟩ (.int .i64 vars)).setCell ⟨v21.heap.size, 1, none⟩ (.slice R30 (n + 1) cR30) := ⟨_, rfl⟩
              have KB32 : Hid (Blk v32 v21.heap.size 24 #[.int .i64 vars, .slice R30 (n + 1) cR30]) := by rw [hv32]; have := (KB30.out.set_ 0 (.int .i64 vars)).set_ 1 (.slice R30 (n + 1) cR30); simpa [Hid] using this
              have HB32 : Hid (Below wr.heap.size wr v32) := by rw [hv32]; exact below_put2 HB30.out (by omega) _ _
              have OR32 : Hid (Own 41 v32 wr.heap.size R30 (n + 1) cR30 (vs ++ [.slice C p f])) := by rw [hv32]; exact own_box OR30.out KB30.out row_ne_cnf _ _
              go_simp
              rw [← hv32]
              clear hv32 e0 e1 f0 f1 le
              have hS : v32.cell? ⟨w.heap.size, 0, none⟩ = some (.int .i64 vars) ∧ v32.cell? ⟨w.heap.size, 1, none⟩ = some (.slice A n c) := ⟨keepBox HB32.out cK_c_0, keepBox HB32.out cK_c_1⟩
              refine hK _ _ (fun _ => hS) ?_
              clear hK
              (try simp only [Act.put, List.setIfInBounds_toArray, List.set_cons_zero, List.set_cons_succ])
              refine doneT (by kernel_rfl) ?_ _
              have XX := Lib.hid (fin_grid G.out HA.out HB32.out HGV.out OR32.out)
              have k0 := KB32.out.cell 0
              have k1 := KB32.out.cell 1
              simp at k0 k1
              have lk := KB32.out.lt
              have HVx := Lib.hid (HV.out.keep HB32.out)
              have BW := HB32
              have hgb := XX.out.bd
              have BWW := Lib.hid (below_next HB.out BW.out)
              clear K_c K_f G HA
              obtain ⟨wz, hwz⟩ : ∃ wz : World, wz = v32 := ⟨_, rfl⟩
              subst hwz
              rcases HM.out with ⟨hne, hwy⟩ | ⟨hck2, hwy⟩
              · obtain ⟨p1, p2, hcc⟩ : ∃ p1 p2, Hid (checkC vars (xss ++ [cl]) = (p1, p2)) := ⟨_, _, rfl⟩
                rw [hcc.out] at hne hwy
                have hne' : p1 ≠ 0 := hne
                have HWY := Lib.hid hwy
                clear hne hwy
                have d1 : (p1 != 0) = true := by simpa using hne'
                have e1 : (p1 == p1) = true := by simp
                have e2 : (p2 == p2) = true := by simp
                go_wp2_with fail
                refine (take_any _ _ _ _ _ _ (xss ++ [cl]) rs vars wz XX.out hv HVx.out 0 p1 p2 HWY.out false (by show _ = _; simp [hne'])).mono ?_
                rintro e w21 ⟨rfl, hb21⟩
                have a0 := keepBox hb21 k0
                have a1 := keepBox hb21 k1
                have la := (cell_lt a0).1
                have G21 := Lib.hid ((XX.out.keep hb21).keep (below_new w21 (.cells #[.int .i64 p1, .int .i64 p2] 28)))
                have B21 := Lib.hid (below_next BWW.out (below_next hb21 (below_new w21 (.cells #[.int .i64 p1, .int .i64 p2] 28))))
                clear hb21 k0 k1 lk
                go_wp2_with fail
                refine (check_ref _ _ _ (xss ++ [cl]) vars _ G21.out hv p1 p2 hcc).mono ?_
                rintro e w22 ⟨rfl, hb22⟩
                obtain ⟨KT, Bx, _⟩ := blk1 hb22
                have b0 := keepBox Bx a0
                have b1 := keepBox Bx a1
                have t0' := KT.cell 0
                have t1' := KT.cell 1
                simp at t0' t1'
                have G22 := Lib.hid (G21.out.keep hb22)
                have B22 := Lib.hid (below_next B21.out hb22)
                clear hb22 Bx KT a0 a1 la
                go_wp2_with fail
                have Q0 := Lib.hid (show (w22.cell? ⟨w21.heap.size, 0, none⟩ = some (.int .i64 p1) ∧ w22.cell? ⟨w21.heap.size, 1, none⟩ = some (.int .i64 p2) ∧ w22.cell? ⟨v21.heap.size, 0, none⟩ = some (.int .i64 vars) ∧ w22.cell? ⟨v21.heap.size, 1, none⟩ = some (.slice R30 (n + 1) cR30)) ∧ Below w22.heap.size w22 w22 from ⟨⟨t0', t1', b0, b1⟩, Below.refl _ _⟩)
                clear t0' t1' b0 b1
                go_region_held3 (fun w' => (w'.cell? ⟨w21.heap.size, 0, none⟩ = some (.int .i64 p1) ∧ w'.cell? ⟨w21.heap.size, 1, none⟩ = some (.int .i64 p2) ∧ w'.cell? ⟨v21.heap.size, 0, none⟩ = some (.int .i64 vars) ∧ w'.cell? ⟨v21.heap.size, 1, none⟩ = some (.slice R30 (n + 1) cR30)) ∧ Below w22.heap.size w22 w') (first | exact held4 (by assumption) (by assumption) | exact held4 (by assumption) (below_new _ _) | exact held4 (by assumption) (below_drewN _ _) | exact held4 Q0.out (below_drewN _ 1))
                  ((go_at_call 23; (with_reducible refine (check_ref _ _ _ (xss ++ [cl]) vars _ ?_ hv p1 p2 hcc).mono ?_); (exact G22.out.keep (And.right (by assumption))); rintro e w23 ⟨rfl, hb23⟩))
                all_goals
                  go_wp2_with fail
                  go_ret
                  exact ⟨rfl, below_next B22.out (And.right (by assumption))⟩
              · have HWY := Lib.hid hwy
                clear hwy
                go_wp2_with fail
                refine (take_any _ _ _ _ _ _ (xss ++ [cl]) rs vars wz XX.out hv HVx.out (-1) 0 0 HWY.out true (by show _ = _; rfl)).mono ?_
                rintro e w21 ⟨rfl, hb21⟩
                have a0 := keepBox hb21 k0
                have a1 := keepBox hb21 k1
                have la := (cell_lt a0).1
                have G21 := Lib.hid ((XX.out.keep hb21).keep (below_new w21 (.cells #[.int .i64 0, .int .i64 0] 28)))
                have B21 := Lib.hid (below_next BWW.out (below_next hb21 (below_new w21 (.cells #[.int .i64 0, .int .i64 0] 28))))
                clear hb21 k0 k1 lk
                go_wp2_with fail
                refine (check_ref _ _ _ (xss ++ [cl]) vars _ G21.out hv 0 0 hck2).mono ?_
                rintro e w22 ⟨rfl, hb22⟩
                obtain ⟨KT, Bx, _⟩ := blk1 hb22
                have t0' := KT.cell 0
                have t1' := KT.cell 1
                simp at t0' t1'
                have lt' := KT.lt
                have B22 := Lib.hid (below_next B21.out hb22)
                clear hb22 Bx KT a0 a1 la
                go_wp2_with fail
                go_ret
                exact ⟨rfl, B22.out⟩
          · obtain ⟨v33, hv33⟩ : ∃ v33 : World, v33 = v20.alloc (.cells #[.int .i64 0, .slice none 0 0] 24) := ⟨_, rfl⟩
            have bv33 : Below v20.heap.size v20 v33 := by rw [hv33]; exact below_new _ _
            have zv33 : v20.heap.size < v33.heap.size := by rw [hv33]; simp
            have OR33 := Lib.hid (OR20.out.keep bv33)
            have SB33 := Lib.hid (SB20.out.keep bv33)
            have KB33 : Hid (Blk v33 v20.heap.size 24 #[.int .i64 0, .slice none 0 0]) := by rw [hv33]; exact Blk.new _ _ _
            have HB33 := Lib.hid (below_next HB20.out bv33)
            have lw33 := HB33.out.size
            go_simp
            rw [← hv33]
            clear hv33
            have hS : v33.cell? ⟨w.heap.size, 0, none⟩ = some (.int .i64 vars) ∧ v33.cell? ⟨w.heap.size, 1, none⟩ = some (.slice A n c) := ⟨keepBox HB33.out cK_c_0, keepBox HB33.out cK_c_1⟩
            refine hK _ _ (fun _ => hS) ?_
            clear hK
            (try simp only [Act.put, List.setIfInBounds_toArray, List.set_cons_zero, List.set_cons_succ])
            refine oneT (i := 5) (by kernel_rfl) rfl (by rfl) (fun K hK => ?_)
            refine wp_append_sl _ (.tmp 51) (.tmp 53) 22 rfl wr.heap.size 41 i0 _ 24 Try.underlying22 hi0 hz0 hz1' hz2 rfl (some ⟨v0.heap.size, 0, none⟩) 0 0 _ rfl OR33.out A n c vs rfl (HSL.out.keep HB33.out) HONE.out (by simp only [maxLen]; omega) (by omega) (by omega) ?_
            intro R34 cR34 v34 hO34 hG34 hA34
            have HB34 : Hid (Below wr.heap.size wr v34) := HB33.out.grown hG34 HB33.out.size (fun k' hk' => own_base OR33.out hk')
            have lw34 := HB34.out.size
            have zg34 := hG34.size
            have OR34 : Hid (Own 41 v34 wr.heap.size R34 n cR34 vs) := by simpa [Hid] using hO34
            have SB34 : Hid (Sl v34 (some ⟨v1.heap.size, 0, none⟩) 1 1 [.slice C p f]) := SB33.out.kept' hG34 (fun e => NE20 e)
            have NE34 : blockOf R34 ≠ some v1.heap.size := hA34.elim (fun e => by rw [e]; exact NE20) (fun e => by rw [e]; simp; omega)
            have KB34 : Hid (Blk v34 v20.heap.size 24 #[.int .i64 0, .slice none 0 0]) := KB33.out.grown hG34 (fun e => (OR33.out.ne_typed (Typed.of_blk KB33.out) row_ne_cnf).elim (fun h => by rw [h] at e; cases e) (fun h => h e.symm))
            clear hO34 hG34 hA34
            have hS : v34.cell? ⟨w.heap.size, 0, none⟩ = some (.int .i64 vars) ∧ v34.cell? ⟨w.heap.size, 1, none⟩ = some (.slice A n c) := ⟨keepBox HB34.out cK_c_0, keepBox HB34.out cK_c_1⟩
            refine hK _ _ (fun _ => hS) ?_
            clear hK
            (try simp only [Act.put, List.setIfInBounds_toArray, List.set_cons_zero, List.set_cons_succ])
            (try simp only [Nat.zero_add])
            refine oneT (i := 8) (by kernel_rfl) rfl (by rfl) (fun K hK => ?_)
            refine wp_append_sl _ (.tmp 54) (.tmp 56) 22 rfl wr.heap.size 41 i0 _ 24 Try.underlying22 hi0 hz0 hz1' hz2 rfl R34 n cR34 _ rfl OR34.out (some ⟨v1.heap.size, 0, none⟩) 1 1 [.slice C p f] rfl SB34.out (by simp [Value.oneCell']) (by simp only [maxLen]; omega) (by omega) (by omega) ?_
            intro R35 cR35 v35 hO35 hG35 hA35
            have HB35 : Hid (Below wr.heap.size wr v35) := HB34.out.grown hG35 HB34.out.size (fun k' hk' => own_base OR34.out hk')
            have lw35 := HB35.out.size
            have zg35 := hG35.size
            have OR35 : Hid (Own 41 v35 wr.heap.size R35 (n + 1) cR35 (vs ++ [.slice C p f])) := by simpa [Hid] using hO35
            have KB35 : Hid (Blk v35 v20.heap.size 24 #[.int .i64 0, .slice none 0 0]) := KB34.out.grown hG35 (fun e => (OR34.out.ne_typed (Typed.of_blk KB34.out) row_ne_cnf).elim (fun h => by rw [h] at e; cases e) (fun h => h e.symm))
            clear hO35 hG35 hA35
            have hS : v35.cell? ⟨w.heap.size, 0, none⟩ = some (.int .i64 vars) ∧ v35.cell? ⟨w.heap.size, 1, none⟩ = some (.slice A n c) := ⟨keepBox HB35.out cK_c_0, keepBox HB35.out cK_c_1⟩
            refine hK _ _ (fun _ => hS) ?_
            clear hK
            (try simp only [Act.put, List.setIfInBounds_toArray, List.set_cons_zero, List.set_cons_succ])
            (try simp only [Nat.zero_add])
            refine oneT (i := 9) (by kernel_rfl) rfl (by rfl) (fun K hK => ?_)
            go_simp
            have hS : v35.cell? ⟨w.heap.size, 0, none⟩ = some (.int .i64 vars) ∧ v35.cell? ⟨w.heap.size, 1, none⟩ = some (.slice A n c) := ⟨keepBox HB35.out cK_c_0, keepBox HB35.out cK_c_1⟩
            refine hK _ _ (fun _ => hS) ?_
            clear hK
            (try simp only [Act.put, List.setIfInBounds_toArray, List.set_cons_zero, List.set_cons_succ])
            refine oneT (i := 11) (by kernel_rfl) rfl (by rfl) (fun K hK => ?_)
            have e0 := KB35.out.cell 0
            have e1 := KB35.out.cell 1
            have f0 := KB35.out.frozen 0
            have f1 := KB35.out.frozen 1
            simp at e0 e1
            have le := KB35.out.lt
            obtain ⟨v37, hv37⟩ : ∃ v37 : World, v37 = (v35.setCell ⟨v20.heap.size, 0, none⟩ (.int .i64 vars)).setCell ⟨v20.heap.size, 1, none⟩ (.slice R35 (n + 1) cR35) := ⟨_, rfl⟩
            have KB37 : Hid (Blk v37 v20.heap.size 24 #[.int .i64 vars, .slice R35 (n + 1) cR35]) := by rw [hv37]; have := (KB35.out.set_ 0 (.int .i64 vars)).set_ 1 (.slice R35 (n + 1) cR35); simpa [Hid] using this
            have HB37 : Hid (Below wr.heap.size wr v37) := by rw [hv37]; exact below_put2 HB35.out (by omega) _ _
            have OR37 : Hid (Own 41 v37 wr.heap.size R35 (n + 1) cR35 (vs ++ [.slice C p f])) := by rw [hv37]; exact own_box OR35.out KB35.out row_ne_cnf _ _
            go_simp
            rw [← hv37]
            clear hv37 e0 e1 f0 f1 le
            have hS : v37.cell? ⟨w.heap.size, 0, none⟩ = some (.int .i64 vars) ∧ v37.cell? ⟨w.heap.size, 1, none⟩ = some (.slice A n c) := ⟨keepBox HB37.out cK_c_0, keepBox HB37.out cK_c_1⟩
            refine hK _ _ (fun _ => hS) ?_
            clear hK
            (try simp only [Act.put, List.setIfInBounds_toArray, List.set_cons_zero, List.set_cons_succ])
            refine doneT (by kernel_rfl) ?_ _
            have XX := Lib.hid (fin_grid G.out HA.out HB37.out HGV.out OR37.out)
            have k0 := KB37.out.cell 0
            have k1 := KB37.out.cell 1
            simp at k0 k1
            have lk := KB37.out.lt
            have HVx := Lib.hid (HV.out.keep HB37.out)
            have BW := HB37
            have hgb := XX.out.bd
            have BWW := Lib.hid (below_next HB.out BW.out)
            clear K_c K_f G HA
            obtain ⟨wz, hwz⟩ : ∃ wz : World, wz = v37 := ⟨_, rfl⟩
            subst hwz
            rcases HM.out with ⟨hne, hwy⟩ | ⟨hck2, hwy⟩
            · obtain ⟨p1, p2, hcc⟩ : ∃ p1 p2, Hid (checkC vars (xss ++ [cl]) = (p1, p2)) := ⟨_, _, rfl⟩
              rw [hcc.out] at hne hwy
              have hne' : p1 ≠ 0 := hne
              have HWY := Lib.hid hwy
              clear hne hwy
              have d1 : (p1 != 0) = true := by simpa using hne'
              have e1 : (p1 == p1) = true := by simp
              have e2 : (p2 == p2) = true := by simp
              go_wp2_with fail
              refine (take_any _ _ _ _ _ _ (xss ++ [cl]) rs vars wz XX.out hv HVx.out 0 p1 p2 HWY.out false (by show _ = _; simp [hne'])).mono ?_
              rintro e w21 ⟨rfl, hb21⟩
              have a0 := keepBox hb21 k0
              have a1 := keepBox hb21 k1
              have la := (cell_lt a0).1
              have G21 := Lib.hid ((XX.out.keep hb21).keep (below_new w21 (.cells #[.int .i64 p1, .int .i64 p2] 28)))
              have B21 := Lib.hid (below_next BWW.out (below_next hb21 (below_new w21 (.cells #[.int .i64 p1, .int .i64 p2] 28))))
              clear hb21 k0 k1 lk
              go_wp2_with fail
              refine (check_ref _ _ _ (xss ++ [cl]) vars _ G21.out hv p1 p2 hcc).mono ?_
              rintro e w22 ⟨rfl, hb22⟩
              obtain ⟨KT, Bx, _⟩ := blk1 hb22
              have b0 := keepBox Bx a0
              have b1 := keepBox Bx a1
              have t0' := KT.cell 0
              have t1' := KT.cell 1
              simp at t0' t1'
              have G22 := Lib.hid (G21.out.keep hb22)
              have B22 := Lib.hid (below_next B21.out hb22)
              clear hb22 Bx KT a0 a1 la
              go_wp2_with fail
              have Q0 := Lib.hid (show (w22.cell? ⟨w21.heap.size, 0, none⟩ = some (.int .i64 p1) ∧ w22.cell? ⟨w21.heap.size, 1, none⟩ = some (.int .i64 p2) ∧ w22.cell? ⟨v20.heap.size, 0, none⟩ = some (.int .i64 vars) ∧ w22.cell? ⟨v20.heap.size, 1, none⟩ = some (.slice R35 (n + 1) cR35)) ∧ Below w22.heap.size w22 w22 from ⟨⟨t0', t1', b0, b1⟩, Below.refl _ _⟩)
              clear t0' t1' b0 b1
              go_region_held3 (fun w' => (w'.cell? ⟨w21.heap.size, 0, none⟩ = some (.int .i64 p1) ∧ w'.cell? ⟨w21.heap.size, 1, none⟩ = some (.int .i64 p2) ∧ w'.cell? ⟨v20.heap.size, 0, none⟩ = some (.int .i64 vars) ∧ w'.cell? ⟨v20.heap.size, 1, none⟩ = some (.slice R35 (n + 1) cR35)) ∧ Below w22.heap.size w22 w') (first | exact held4 (by assumption) (by assumption) | exact held4 (by assumption) (below_new _ _) | exact held4 (by assumption) (below_drewN _ _) | exact held4 Q0.out (below_drewN _ 1))
                ((go_at_call 23; (with_reducible refine (check_ref _ _ _ (xss ++ [cl]) vars _ ?_ hv p1 p2 hcc).mono ?_); (exact G22.out.keep (And.right (by assumption))); rintro e w23 ⟨rfl, hb23⟩))
              all_goals
                go_wp2_with fail
                go_ret
                exact ⟨rfl, below_next B22.out (And.right (by assumption))⟩
            · have HWY := Lib.hid hwy
              clear hwy
              go_wp2_with fail
              refine (take_any _ _ _ _ _ _ (xss ++ [cl]) rs vars wz XX.out hv HVx.out (-1) 0 0 HWY.out true (by show _ = _; rfl)).mono ?_
              rintro e w21 ⟨rfl, hb21⟩
              have a0 := keepBox hb21 k0
              have a1 := keepBox hb21 k1
              have la := (cell_lt a0).1
              have G21 := Lib.hid ((XX.out.keep hb21).keep (below_new w21 (.cells #[.int .i64 0, .int .i64 0] 28)))
              have B21 := Lib.hid (below_next BWW.out (below_next hb21 (below_new w21 (.cells #[.int .i64 0, .int .i64 0] 28))))
              clear hb21 k0 k1 lk
              go_wp2_with fail
              refine (check_ref _ _ _ (xss ++ [cl]) vars _ G21.out hv 0 0 hck2).mono ?_
              rintro e w22 ⟨rfl, hb22⟩
              obtain ⟨KT, Bx, _⟩ := blk1 hb22
              have t0' := KT.cell 0
              have t1' := KT.cell 1
              simp at t0' t1'
              have lt' := KT.lt
              have B22 := Lib.hid (below_next B21.out hb22)
              clear hb22 Bx KT a0 a1 la
              go_wp2_with fail
              go_ret
              exact ⟨rfl, B22.out⟩
        · obtain ⟨v38, hv38⟩ : ∃ v38 : World, v38 = v1.alloc (.cells #[.int .i64 0, .slice none 0 0] 24) := ⟨_, rfl⟩
          have bv38 : Below v1.heap.size v1 v38 := by rw [hv38]; exact below_new _ _
          have zv38 : v1.heap.size < v38.heap.size := by rw [hv38]; simp
          have OR38 := Lib.hid (OR1.out.keep bv38)
          have KB38 : Hid (Blk v38 v1.heap.size 24 #[.int .i64 0, .slice none 0 0]) := by rw [hv38]; exact Blk.new _ _ _
          have HB38 := Lib.hid (below_next HB1.out bv38)
          have lw38 := HB38.out.size
          go_simp
          rw [← hv38]
          clear hv38
          have hS : v38.cell? ⟨w.heap.size, 0, none⟩ = some (.int .i64 vars) ∧ v38.cell? ⟨w.heap.size, 1, none⟩ = some (.slice A n c) := ⟨keepBox HB38.out cK_c_0, keepBox HB38.out cK_c_1⟩
          refine hK _ _ (fun _ => hS) ?_
          clear hK
          (try simp only [Act.put, List.setIfInBounds_toArray, List.set_cons_zero, List.set_cons_succ])
          refine twoT (i := 5) (j := 7) (by kernel_rfl) rfl (by rfl) rfl (by rfl) (fun K hK => ?_) (fun K hK => ?_)
          · refine wp_append_sl _ (.tmp 51) (.tmp 53) 22 rfl wr.heap.size 41 i0 _ 24 Try.underlying22 hi0 hz0 hz1' hz2 rfl (some ⟨v0.heap.size, 0, none⟩) 0 0 _ rfl OR38.out A n c vs rfl (HSL.out.keep HB38.out) HONE.out (by simp only [maxLen]; omega) (by omega) (by omega) ?_
            intro R39 cR39 v39 hO39 hG39 hA39
            have HB39 : Hid (Below wr.heap.size wr v39) := HB38.out.grown hG39 HB38.out.size (fun k' hk' => own_base OR38.out hk')
            have lw39 := HB39.out.size
            have zg39 := hG39.size
            have OR39 : Hid (Own 41 v39 wr.heap.size R39 n cR39 vs) := by simpa [Hid] using hO39
            have KB39 : Hid (Blk v39 v1.heap.size 24 #[.int .i64 0, .slice none 0 0]) := KB38.out.grown hG39 (fun e => (OR38.out.ne_typed (Typed.of_blk KB38.out) row_ne_cnf).elim (fun h => by rw [h] at e; cases e) (fun h => h e.symm))
            clear hO39 hG39 hA39
            have hS : v39.cell? ⟨w.heap.size, 0, none⟩ = some (.int .i64 vars) ∧ v39.cell? ⟨w.heap.size, 1, none⟩ = some (.slice A n c) := ⟨keepBox HB39.out cK_c_0, keepBox HB39.out cK_c_1⟩
            refine hK _ _ (fun _ => hS) ?_
            clear hK
            (try simp only [Act.put, List.setIfInBounds_toArray, List.set_cons_zero, List.set_cons_succ])
            (try simp only [Nat.zero_add])
            refine oneT (i := 7) (by kernel_rfl) rfl (by rfl) (fun K hK => ?_)
            obtain ⟨v40, hv40⟩ : ∃ v40 : World, v40 = v39.alloc (.cells #[.slice C p f] 41) := ⟨_, rfl⟩
            have bv40 : Below v39.heap.size v39 v40 := by rw [hv40]; exact below_new _ _
            have zv40 : v39.heap.size < v40.heap.size := by rw [hv40]; simp
            have OR40 := Lib.hid (OR39.out.keep bv40)
            have KB40 := Lib.hid (KB39.out.keep bv40)
            have SB40 : Hid (Sl v40 (some ⟨v39.heap.size, 0, none⟩) 1 1 [.slice C p f]) := by rw [hv40]; exact sl_one v39 41 (.slice C p f) rfl
            have NE40 : blockOf R39 ≠ some v39.heap.size := OR39.out.ltb (Nat.le_refl _)
            have HB40 := Lib.hid (below_next HB39.out bv40)
            have lw40 := HB40.out.size
            go_simp
            rw [← hv40]
            clear hv40
            have hS : v40.cell? ⟨w.heap.size, 0, none⟩ = some (.int .i64 vars) ∧ v40.cell? ⟨w.heap.size, 1, none⟩ = some (.slice A n c) := ⟨keepBox HB40.out cK_c_0, keepBox HB40.out cK_c_1⟩
            refine hK _ _ (fun _ => hS) ?_
            clear hK
            (try simp only [Act.put, List.setIfInBounds_toArray, List.set_cons_zero, List.set_cons_succ])
            refine oneT (i := 8) (by kernel_rfl) rfl (by rfl) (fun K hK => ?_)
            refine wp_append_sl _ (.tmp 54) (.tmp 56) 22 rfl wr.heap.size 41 i0 _ 24 Try.underlying22 hi0 hz0 hz1' hz2 rfl R39 n cR39 _ rfl OR40.out (some ⟨v39.heap.size, 0, none⟩) 1 1 [.slice C p f] rfl SB40.out (by simp [Value.oneCell']) (by simp only [maxLen]; omega) (by omega) (by omega) ?_
            intro R41 cR41 v41 hO41 hG41 hA41
            have HB41 : Hid (Below wr.heap.size wr v41) := HB40.out.grown hG41 HB40.out.size (fun k' hk' => own_base OR40.out hk')
            have lw41 := HB41.out.size
            have zg41 := hG41.size
            have OR41 : Hid (Own 41 v41 wr.heap.size R41 (n + 1) cR41 (vs ++ [.slice C p f])) := by simpa [Hid] using hO41
            have KB41 : Hid (Blk v41 v1.heap.size 24 #[.int .i64 0, .slice none 0 0]) := KB40.out.grown hG41 (fun e => (OR40.out.ne_typed (Typed.of_blk KB40.out) row_ne_cnf).elim (fun h => by rw [h] at e; cases e) (fun h => h e.symm))
            clear hO41 hG41 hA41
            have hS : v41.cell? ⟨w.heap.size, 0, none⟩ = some (.int .i64 vars) ∧ v41.cell? ⟨w.heap.size, 1, none⟩ = some (.slice A n c) := ⟨keepBox HB41.out cK_c_0, keepBox HB41.out cK_c_1⟩
            refine hK _ _ (fun _ => hS) ?_
            clear hK
            (try simp only [Act.put, List.setIfInBounds_toArray, List.set_cons_zero, List.set_cons_succ])
            (try simp only [Nat.zero_add])
            refine oneT (i := 9) (by kernel_rfl) rfl (by rfl) (fun K hK => ?_)
            go_simp
            have hS : v41.cell? ⟨w.heap.size, 0, none⟩ = some (.int .i64 vars) ∧ v41.cell? ⟨w.heap.size, 1, none⟩ = some (.slice A n c) := ⟨keepBox HB41.out cK_c_0, keepBox HB41.out cK_c_1⟩
            refine hK _ _ (fun _ => hS) ?_
            clear hK
            (try simp only [Act.put, List.setIfInBounds_toArray, List.set_cons_zero, List.set_cons_succ])
            refine oneT (i := 11) (by kernel_rfl) rfl (by rfl) (fun K hK => ?_)
            have e0 := KB41.out.cell 0
            have e1 := KB41.out.cell 1
            have f0 := KB41.out.frozen 0
            have f1 := KB41.out.frozen 1
            simp at e0 e1
            have le := KB41.out.lt
            obtain ⟨v43, hv43⟩ : ∃ v43 : World, v43 = (v41.setCell ⟨v1.heap.size, 0, none⟩ (.int .i64 vars)).setCell ⟨v1.heap.size, 1, none⟩ (.slice R41 (n + 1) cR41) := ⟨_, rfl⟩
            have KB43 : Hid (Blk v43 v1.heap.size 24 #[.int .i64 vars, .slice R41 (n + 1) cR41]) := by rw [hv43]; have := (KB41.out.set_ 0 (.int .i64 vars)).set_ 1 (.slice R41 (n + 1) cR41); simpa [Hid] using this
            have HB43 : Hid (Below wr.heap.size wr v43) := by rw [hv43]; exact below_put2 HB41.out (by omega) _ _
            have OR43 : Hid (Own 41 v43 wr.heap.size R41 (n + 1) cR41 (vs ++ [.slice C p f])) := by rw [hv43]; exact own_box OR41.out KB41.out row_ne_cnf _ _
            go_simp
            rw [← hv43]
            clear hv43 e0 e1 f0 f1 le
            have hS : v43.cell? ⟨w.heap.size, 0, none⟩ = some (.int .i64 vars) ∧ v43.cell? ⟨w.heap.size, 1, none⟩ = some (.slice A n c) := ⟨keepBox HB43.out cK_c_0, keepBox HB43.out cK_c_1⟩
            refine hK _ _ (fun _ => hS) ?_
            clear hK
            (try simp only [Act.put, List.setIfInBounds_toArray, List.set_cons_zero, List.set_cons_succ])
            refine doneT (by kernel_rfl) ?_ _
            have XX := Lib.hid (fin_grid G.out HA.out HB43.out HGV.out OR43.out)
            have k0 := KB43.out.cell 0
            have k1 := KB43.out.cell 1
            simp at k0 k1
            have lk := KB43.out.lt
            have HVx := Lib.hid (HV.out.keep HB43.out)
            have BW := HB43
            have hgb := XX.out.bd
            have BWW := Lib.hid (below_next HB.out BW.out)
            clear K_c K_f G HA
            obtain ⟨wz, hwz⟩ : ∃ wz : World, wz = v43 := ⟨_, rfl⟩
            subst hwz
            rcases HM.out with ⟨hne, hwy⟩ | ⟨hck2, hwy⟩
            · obtain ⟨p1, p2, hcc⟩ : ∃ p1 p2, Hid (checkC vars (xss ++ [cl]) = (p1, p2)) := ⟨_, _, rfl⟩
              rw [hcc.out] at hne hwy
              have hne' : p1 ≠ 0 := hne
              have HWY := Lib.hid hwy
              clear hne hwy
              have d1 : (p1 != 0) = true := by simpa using hne'
              have e1 : (p1 == p1) = true := by simp
              have e2 : (p2 == p2) = true := by simp
              go_wp2_with fail
              refine (take_any _ _ _ _ _ _ (xss ++ [cl]) rs vars wz XX.out hv HVx.out 0 p1 p2 HWY.out false (by show _ = _; simp [hne'])).mono ?_
              rintro e w21 ⟨rfl, hb21⟩
              have a0 := keepBox hb21 k0
              have a1 := keepBox hb21 k1
              have la := (cell_lt a0).1
              have G21 := Lib.hid ((XX.out.keep hb21).keep (below_new w21 (.cells #[.int .i64 p1, .int .i64 p2] 28)))
              have B21 := Lib.hid (below_next BWW.out (below_next hb21 (below_new w21 (.cells #[.int .i64 p1, .int .i64 p2] 28))))
              clear hb21 k0 k1 lk
              go_wp2_with fail
              refine (check_ref _ _ _ (xss ++ [cl]) vars _ G21.out hv p1 p2 hcc).mono ?_
              rintro e w22 ⟨rfl, hb22⟩
              obtain ⟨KT, Bx, _⟩ := blk1 hb22
              have b0 := keepBox Bx a0
              have b1 := keepBox Bx a1
              have t0' := KT.cell 0
              have t1' := KT.cell 1
              simp at t0' t1'
              have G22 := Lib.hid (G21.out.keep hb22)
              have B22 := Lib.hid (below_next B21.out hb22)
              clear hb22 Bx KT a0 a1 la
              go_wp2_with fail
              have Q0 := Lib.hid (show (w22.cell? ⟨w21.heap.size, 0, none⟩ = some (.int .i64 p1) ∧ w22.cell? ⟨w21.heap.size, 1, none⟩ = some (.int .i64 p2) ∧ w22.cell? ⟨v1.heap.size, 0, none⟩ = some (.int .i64 vars) ∧ w22.cell? ⟨v1.heap.size, 1, none⟩ = some (.slice R41 (n + 1) cR41)) ∧ Below w22.heap.size w22 w22 from ⟨⟨t0', t1', b0, b1⟩, Below.refl _ _⟩)
              clear t0' t1' b0 b1
              go_region_held3 (fun w' => (w'.cell? ⟨w21.heap.size, 0, none⟩ = some (.int .i64 p1) ∧ w'.cell? ⟨w21.heap.size, 1, none⟩ = some (.int .i64 p2) ∧ w'.cell? ⟨v1.heap.size, 0, none⟩ = some (.int .i64 vars) ∧ w'.cell? ⟨v1.heap.size, 1, none⟩ = some (.slice R41 (n + 1) cR41)) ∧ Below w22.heap.size w22 w') (first | exact held4 (by assumption) (by assumption) | exact held4 (by assumption) (below_new _ _) | exact held4 (by assumption) (below_drewN _ _) | exact held4 Q0.out (below_drewN _ 1))
                ((go_at_call 23; (with_reducible refine (check_ref _ _ _ (xss ++ [cl]) vars _ ?_ hv p1 p2 hcc).mono ?_); (exact G22.out.keep (And.right (by assumption))); rintro e w23 ⟨rfl, hb23⟩))
              all_goals
                go_wp2_with fail
                go_ret
                exact ⟨rfl, below_next B22.out (And.right (by assumption))⟩
            · have HWY := Lib.hid hwy
              clear hwy
              go_wp2_with fail
              refine (take_any _ _ _ _ _ _ (xss ++ [cl]) rs vars wz XX.out hv HVx.out (-1) 0 0 HWY.out true (by show _ = _; rfl)).mono ?_
              rintro e w21 ⟨rfl, hb21⟩
              have a0 := keepBox hb21 k0
              have a1 := keepBox hb21 k1
              have la := (cell_lt a0).1
              have G21 := Lib.hid ((XX.out.keep hb21).keep (below_new w21 (.cells #[.int .i64 0, .int .i64 0] 28)))
              have B21 := Lib.hid (below_next BWW.out (below_next hb21 (below_new w21 (.cells #[.int .i64 0, .int .i64 0] 28))))
              clear hb21 k0 k1 lk
              go_wp2_with fail
              refine (check_ref _ _ _ (xss ++ [cl]) vars _ G21.out hv 0 0 hck2).mono ?_
              rintro e w22 ⟨rfl, hb22⟩
              obtain ⟨KT, Bx, _⟩ := blk1 hb22
              have t0' := KT.cell 0
              have t1' := KT.cell 1
              simp at t0' t1'
              have lt' := KT.lt
              have B22 := Lib.hid (below_next B21.out hb22)
              clear hb22 Bx KT a0 a1 la
              go_wp2_with fail
              go_ret
              exact ⟨rfl, B22.out⟩
          · obtain ⟨v44, hv44⟩ : ∃ v44 : World, v44 = v38.alloc (.cells #[.slice C p f] 41) := ⟨_, rfl⟩
            have bv44 : Below v38.heap.size v38 v44 := by rw [hv44]; exact below_new _ _
            have zv44 : v38.heap.size < v44.heap.size := by rw [hv44]; simp
            have OR44 := Lib.hid (OR38.out.keep bv44)
            have KB44 := Lib.hid (KB38.out.keep bv44)
            have SB44 : Hid (Sl v44 (some ⟨v38.heap.size, 0, none⟩) 1 1 [.slice C p f]) := by rw [hv44]; exact sl_one v38 41 (.slice C p f) rfl
            have NE44 : blockOf (some ⟨v0.heap.size, 0, none⟩) ≠ some v38.heap.size := OR38.out.ltb (Nat.le_refl _)
            have HB44 := Lib.hid (below_next HB38.out bv44)
            have lw44 := HB44.out.size
            go_simp
            rw [← hv44]
            clear hv44
            have hS : v44.cell? ⟨w.heap.size, 0, none⟩ = some (.int .i64 vars) ∧ v44.cell? ⟨w.heap.size, 1, none⟩ = some (.slice A n c) := ⟨keepBox HB44.out cK_c_0, keepBox HB44.out cK_c_1⟩
            refine hK _ _ (fun _ => hS) ?_
            clear hK
            (try simp only [Act.put, List.setIfInBounds_toArray, List.set_cons_zero, List.set_cons_succ])
            refine oneT (i := 5) (by kernel_rfl) rfl (by rfl) (fun K hK => ?_)
            refine wp_append_sl _ (.tmp 51) (.tmp 53) 22 rfl wr.heap.size 41 i0 _ 24 Try.underlying22 hi0 hz0 hz1' hz2 rfl (some ⟨v0.heap.size, 0, none⟩) 0 0 _ rfl OR44.out A n c vs rfl (HSL.out.keep HB44.out) HONE.out (by simp only [maxLen]; omega) (by omega) (by omega) ?_
            intro R45 cR45 v45 hO45 hG45 hA45
            have HB45 : Hid (Below wr.heap.size wr v45) := HB44.out.grown hG45 HB44.out.size (fun k' hk' => own_base OR44.out hk')
            have lw45 := HB45.out.size
            have zg45 := hG45.size
            have OR45 : Hid (Own 41 v45 wr.heap.size R45 n cR45 vs) := by simpa [Hid] using hO45
            have SB45 : Hid (Sl v45 (some ⟨v38.heap.size, 0, none⟩) 1 1 [.slice C p f]) := SB44.out.kept' hG45 (fun e => NE44 e)
            have NE45 : blockOf R45 ≠ some v38.heap.size := hA45.elim (fun e => by rw [e]; exact NE44) (fun e => by rw [e]; simp; omega)
            have KB45 : Hid (Blk v45 v1.heap.size 24 #[.int .i64 0, .slice none 0 0]) := KB44.out.grown hG45 (fun e => (OR44.out.ne_typed (Typed.of_blk KB44.out) row_ne_cnf).elim (fun h => by rw [h] at e; cases e) (fun h => h e.symm))
            clear hO45 hG45 hA45
            have hS : v45.cell? ⟨w.heap.size, 0, none⟩ = some (.int .i64 vars) ∧ v45.cell? ⟨w.heap.size, 1, none⟩ = some (.slice A n c) := ⟨keepBox HB45.out cK_c_0, keepBox HB45.out cK_c_1⟩
            refine hK _ _ (fun _ => hS) ?_
            clear hK
            (try simp only [Act.put, List.setIfInBounds_toArray, List.set_cons_zero, List.set_cons_succ])
            (try simp only [Nat.zero_add])
            refine oneT (i := 8) (by kernel_rfl) rfl (by rfl) (fun K hK => ?_)
            refine wp_append_sl _ (.tmp 54) (.tmp 56) 22 rfl wr.heap.size 41 i0 _ 24 Try.underlying22 hi0 hz0 hz1' hz2 rfl R45 n cR45 _ rfl OR45.out (some ⟨v38.heap.size, 0, none⟩) 1 1 [.slice C p f] rfl SB45.out (by simp [Value.oneCell']) (by simp only [maxLen]; omega) (by omega) (by omega) ?_
            intro R46 cR46 v46 hO46 hG46 hA46
            have HB46 : Hid (Below wr.heap.size wr v46) := HB45.out.grown hG46 HB45.out.size (fun k' hk' => own_base OR45.out hk')
            have lw46 := HB46.out.size
            have zg46 := hG46.size
            have OR46 : Hid (Own 41 v46 wr.heap.size R46 (n + 1) cR46 (vs ++ [.slice C p f])) := by simpa [Hid] using hO46
            have KB46 : Hid (Blk v46 v1.heap.size 24 #[.int .i64 0, .slice none 0 0]) := KB45.out.grown hG46 (fun e => (OR45.out.ne_typed (Typed.of_blk KB45.out) row_ne_cnf).elim (fun h => by rw [h] at e; cases e) (fun h => h e.symm))
            clear hO46 hG46 hA46
            have hS : v46.cell? ⟨w.heap.size, 0, none⟩ = some (.int .i64 vars) ∧ v46.cell? ⟨w.heap.size, 1, none⟩ = some (.slice A n c) := ⟨keepBox HB46.out cK_c_0, keepBox HB46.out cK_c_1⟩
            refine hK _ _ (fun _ => hS) ?_
            clear hK
            (try simp only [Act.put, List.setIfInBounds_toArray, List.set_cons_zero, List.set_cons_succ])
            (try simp only [Nat.zero_add])
            refine oneT (i := 9) (by kernel_rfl) rfl (by rfl) (fun K hK => ?_)
            go_simp
            have hS : v46.cell? ⟨w.heap.size, 0, none⟩ = some (.int .i64 vars) ∧ v46.cell? ⟨w.heap.size, 1, none⟩ = some (.slice A n c) := ⟨keepBox HB46.out cK_c_0, keepBox HB46.out cK_c_1⟩
            refine hK _ _ (fun _ => hS) ?_
            clear hK
            (try simp only [Act.put, List.setIfInBounds_toArray, List.set_cons_zero, List.set_cons_succ])
            refine oneT (i := 11) (by kernel_rfl) rfl (by rfl) (fun K hK => ?_)
            have e0 := KB46.out.cell 0
            have e1 := KB46.out.cell 1
            have f0 := KB46.out.frozen 0
            have f1 := KB46.out.frozen 1
            simp at e0 e1
            have le := KB46.out.lt
            obtain ⟨v48, hv48⟩ : ∃ v48 : World, v48 = (v46.setCell ⟨v1.heap.size, 0, none⟩ (.int .i64 vars)).setCell ⟨v1.heap.size, 1, none⟩ (.slice R46 (n + 1) cR46) := ⟨_, rfl⟩
            have KB48 : Hid (Blk v48 v1.heap.size 24 #[.int .i64 vars, .slice R46 (n + 1) cR46]) := by rw [hv48]; have := (KB46.out.set_ 0 (.int .i64 vars)).set_ 1 (.slice R46 (n + 1) cR46); simpa [Hid] using this
            have HB48 : Hid (Below wr.heap.size wr v48) := by rw [hv48]; exact below_put2 HB46.out (by omega) _ _
            have OR48 : Hid (Own 41 v48 wr.heap.size R46 (n + 1) cR46 (vs ++ [.slice C p f])) := by rw [hv48]; exact own_box OR46.out KB46.out row_ne_cnf _ _
            go_simp
            rw [← hv48]
            clear hv48 e0 e1 f0 f1 le
            have hS : v48.cell? ⟨w.heap.size, 0, none⟩ = some (.int .i64 vars) ∧ v48.cell? ⟨w.heap.size, 1, none⟩ = some (.slice A n c) := ⟨keepBox HB48.out cK_c_0, keepBox HB48.out cK_c_1⟩
            refine hK _ _ (fun _ => hS) ?_
            clear hK
            (try simp only [Act.put, List.setIfInBounds_toArray, List.set_cons_zero, List.set_cons_succ])
            refine doneT (by kernel_rfl) ?_ _
            have XX := Lib.hid (fin_grid G.out HA.out HB48.out HGV.out OR48.out)
            have k0 := KB48.out.cell 0
            have k1 := KB48.out.cell 1
            simp at k0 k1
            have lk := KB48.out.lt
            have HVx := Lib.hid (HV.out.keep HB48.out)
            have BW := HB48
            have hgb := XX.out.bd
            have BWW := Lib.hid (below_next HB.out BW.out)
            clear K_c K_f G HA
            obtain ⟨wz, hwz⟩ : ∃ wz : World, wz = v48 := ⟨_, rfl⟩
            subst hwz
            rcases HM.out with ⟨hne, hwy⟩ | ⟨hck2, hwy⟩
            · obtain ⟨p1, p2, hcc⟩ : ∃ p1 p2, Hid (checkC vars (xss ++ [cl]) = (p1, p2)) := ⟨_, _, rfl⟩
              rw [hcc.out] at hne hwy
              have hne' : p1 ≠ 0 := hne
              have HWY := Lib.hid hwy
              clear hne hwy
              have d1 : (p1 != 0) = true := by simpa using hne'
              have e1 : (p1 == p1) = true := by simp
              have e2 : (p2 == p2) = true := by simp
              go_wp2_with fail
              refine (take_any _ _ _ _ _ _ (xss ++ [cl]) rs vars wz XX.out hv HVx.out 0 p1 p2 HWY.out false (by show _ = _; simp [hne'])).mono ?_
              rintro e w21 ⟨rfl, hb21⟩
              have a0 := keepBox hb21 k0
              have a1 := keepBox hb21 k1
              have la := (cell_lt a0).1
              have G21 := Lib.hid ((XX.out.keep hb21).keep (below_new w21 (.cells #[.int .i64 p1, .int .i64 p2] 28)))
              have B21 := Lib.hid (below_next BWW.out (below_next hb21 (below_new w21 (.cells #[.int .i64 p1, .int .i64 p2] 28))))
              clear hb21 k0 k1 lk
              go_wp2_with fail
              refine (check_ref _ _ _ (xss ++ [cl]) vars _ G21.out hv p1 p2 hcc).mono ?_
              rintro e w22 ⟨rfl, hb22⟩
              obtain ⟨KT, Bx, _⟩ := blk1 hb22
              have b0 := keepBox Bx a0
              have b1 := keepBox Bx a1
              have t0' := KT.cell 0
              have t1' := KT.cell 1
              simp at t0' t1'
              have G22 := Lib.hid (G21.out.keep hb22)
              have B22 := Lib.hid (below_next B21.out hb22)
              clear hb22 Bx KT a0 a1 la
              go_wp2_with fail
              have Q0 := Lib.hid (show (w22.cell? ⟨w21.heap.size, 0, none⟩ = some (.int .i64 p1) ∧ w22.cell? ⟨w21.heap.size, 1, none⟩ = some (.int .i64 p2) ∧ w22.cell? ⟨v1.heap.size, 0, none⟩ = some (.int .i64 vars) ∧ w22.cell? ⟨v1.heap.size, 1, none⟩ = some (.slice R46 (n + 1) cR46)) ∧ Below w22.heap.size w22 w22 from ⟨⟨t0', t1', b0, b1⟩, Below.refl _ _⟩)
              clear t0' t1' b0 b1
              go_region_held3 (fun w' => (w'.cell? ⟨w21.heap.size, 0, none⟩ = some (.int .i64 p1) ∧ w'.cell? ⟨w21.heap.size, 1, none⟩ = some (.int .i64 p2) ∧ w'.cell? ⟨v1.heap.size, 0, none⟩ = some (.int .i64 vars) ∧ w'.cell? ⟨v1.heap.size, 1, none⟩ = some (.slice R46 (n + 1) cR46)) ∧ Below w22.heap.size w22 w') (first | exact held4 (by assumption) (by assumption) | exact held4 (by assumption) (below_new _ _) | exact held4 (by assumption) (below_drewN _ _) | exact held4 Q0.out (below_drewN _ 1))
                ((go_at_call 23; (with_reducible refine (check_ref _ _ _ (xss ++ [cl]) vars _ ?_ hv p1 p2 hcc).mono ?_); (exact G22.out.keep (And.right (by assumption))); rintro e w23 ⟨rfl, hb23⟩))
              all_goals
                go_wp2_with fail
                go_ret
                exact ⟨rfl, below_next B22.out (And.right (by assumption))⟩
            · have HWY := Lib.hid hwy
              clear hwy
              go_wp2_with fail
              refine (take_any _ _ _ _ _ _ (xss ++ [cl]) rs vars wz XX.out hv HVx.out (-1) 0 0 HWY.out true (by show _ = _; rfl)).mono ?_
              rintro e w21 ⟨rfl, hb21⟩
              have a0 := keepBox hb21 k0
              have a1 := keepBox hb21 k1
              have la := (cell_lt a0).1
              have G21 := Lib.hid ((XX.out.keep hb21).keep (below_new w21 (.cells #[.int .i64 0, .int .i64 0] 28)))
              have B21 := Lib.hid (below_next BWW.out (below_next hb21 (below_new w21 (.cells #[.int .i64 0, .int .i64 0] 28))))
              clear hb21 k0 k1 lk
              go_wp2_with fail
              refine (check_ref _ _ _ (xss ++ [cl]) vars _ G21.out hv 0 0 hck2).mono ?_
              rintro e w22 ⟨rfl, hb22⟩
              obtain ⟨KT, Bx, _⟩ := blk1 hb22
              have t0' := KT.cell 0
              have t1' := KT.cell 1
              simp at t0' t1'
              have lt' := KT.lt
              have B22 := Lib.hid (below_next B21.out hb22)
              clear hb22 Bx KT a0 a1 la
              go_wp2_with fail
              go_ret
              exact ⟨rfl, B22.out⟩
      · obtain ⟨v49, hv49⟩ : ∃ v49 : World, v49 = v0.alloc (.cells #[.slice C p f] 41) := ⟨_, rfl⟩
        have bv49 : Below v0.heap.size v0 v49 := by rw [hv49]; exact below_new _ _
        have zv49 : v0.heap.size < v49.heap.size := by rw [hv49]; simp
        have SB49 : Hid (Sl v49 (some ⟨v0.heap.size, 0, none⟩) 1 1 [.slice C p f]) := by rw [hv49]; exact sl_one v0 41 (.slice C p f) rfl
        have HB49 := Lib.hid (below_next HB0.out bv49)
        have lw49 := HB49.out.size
        go_simp
        rw [← hv49]
        clear hv49
        have hS : v49.cell? ⟨w.heap.size, 0, none⟩ = some (.int .i64 vars) ∧ v49.cell? ⟨w.heap.size, 1, none⟩ = some (.slice A n c) := ⟨keepBox HB49.out cK_c_0, keepBox HB49.out cK_c_1⟩
        refine hK _ _ (fun _ => hS) ?_
        clear hK
        (try simp only [Act.put, List.setIfInBounds_toArray, List.set_cons_zero, List.set_cons_succ])
        refine twoT (i := 2) (j := 10) (by kernel_rfl) rfl (by rfl) rfl (by rfl) (fun K hK => ?_) (fun K hK => ?_)
        · obtain ⟨v50, hv50⟩ : ∃ v50 : World, v50 = v49.alloc (.cells #[] 41) := ⟨_, rfl⟩
          have bv50 : Below v49.heap.size v49 v50 := by rw [hv50]; exact below_new _ _
          have zv50 : v49.heap.size < v50.heap.size := by rw [hv50]; simp
          have SB50 := Lib.hid (SB49.out.keep bv50)
          have OR50 : Hid (Own 41 v50 wr.heap.size (some ⟨v49.heap.size, 0, none⟩) 0 0 []) := by rw [hv50]; exact own_empty _ _ _ rfl (by omega)
          have NE50 : blockOf (some (⟨v49.heap.size, 0, none⟩ : Addr)) ≠ some v0.heap.size := by simp [blockOf]; omega
          have HB50 := Lib.hid (below_next HB49.out bv50)
          have lw50 := HB50.out.size
          go_simp
          rw [← hv50]
          clear hv50
          have hS : v50.cell? ⟨w.heap.size, 0, none⟩ = some (.int .i64 vars) ∧ v50.cell? ⟨w.heap.size, 1, none⟩ = some (.slice A n c) := ⟨keepBox HB50.out cK_c_0, keepBox HB50.out cK_c_1⟩
          refine hK _ _ (fun _ => hS) ?_
          clear hK
          (try simp only [Act.put, List.setIfInBounds_toArray, List.set_cons_zero, List.set_cons_succ])
          refine twoT (i := 5) (j := 10) (by kernel_rfl) rfl (by rfl) rfl (by rfl) (fun K hK => ?_) (fun K hK => ?_)
          · refine wp_append_sl _ (.tmp 51) (.tmp 53) 22 rfl wr.heap.size 41 i0 _ 24 Try.underlying22 hi0 hz0 hz1' hz2 rfl (some ⟨v49.heap.size, 0, none⟩) 0 0 _ rfl OR50.out A n c vs rfl (HSL.out.keep HB50.out) HONE.out (by simp only [maxLen]; omega) (by omega) (by omega) ?_
            intro R51 cR51 v51 hO51 hG51 hA51
            have HB51 : Hid (Below wr.heap.size wr v51) := HB50.out.grown hG51 HB50.out.size (fun k' hk' => own_base OR50.out hk')
            have lw51 := HB51.out.size
            have zg51 := hG51.size
            have OR51 : Hid (Own 41 v51 wr.heap.size R51 n cR51 vs) := by simpa [Hid] using hO51
            have SB51 : Hid (Sl v51 (some ⟨v0.heap.size, 0, none⟩) 1 1 [.slice C p f]) := SB50.out.kept' hG51 (fun e => NE50 e)
            have NE51 : blockOf R51 ≠ some v0.heap.size := hA51.elim (fun e => by rw [e]; exact NE50) (fun e => by rw [e]; simp; omega)
            clear hO51 hG51 hA51
            have hS : v51.cell? ⟨w.heap.size, 0, none⟩ = some (.int .i64 vars) ∧ v51.cell? ⟨w.heap.size, 1, none⟩ = some (.slice A n c) := ⟨keepBox HB51.out cK_c_0, keepBox HB51.out cK_c_1⟩
            refine hK _ _ (fun _ => hS) ?_
            clear hK
            (try simp only [Act.put, List.setIfInBounds_toArray, List.set_cons_zero, List.set_cons_succ])
            (try simp only [Nat.zero_add])
            refine twoT (i := 8) (j := 10) (by kernel_rfl) rfl (by rfl) rfl (by rfl) (fun K hK => ?_) (fun K hK => ?_)
            · refine wp_append_sl _ (.tmp 54) (.tmp 56) 22 rfl wr.heap.size 41 i0 _ 24 Try.underlying22 hi0 hz0 hz1' hz2 rfl R51 n cR51 _ rfl OR51.out (some ⟨v0.heap.size, 0, none⟩) 1 1 [.slice C p f] rfl SB51.out (by simp [Value.oneCell']) (by simp only [maxLen]; omega) (by omega) (by omega) ?_
              intro R52 cR52 v52 hO52 hG52 hA52
              have HB52 : Hid (Below wr.heap.size wr v52) := HB51.out.grown hG52 HB51.out.size (fun k' hk' => own_base OR51.out hk')
              have lw52 := HB52.out.size
              have zg52 := hG52.size
              have OR52 : Hid (Own 41 v52 wr.heap.size R52 (n + 1) cR52 (vs ++ [.slice C p f])) := by simpa [Hid] using hO52
              clear hO52 hG52 hA52
              have hS : v52.cell? ⟨w.heap.size, 0, none⟩ = some (.int .i64 vars) ∧ v52.cell? ⟨w.heap.size, 1, none⟩ = some (.slice A n c) := ⟨keepBox HB52.out cK_c_0, keepBox HB52.out cK_c_1⟩
              refine hK _ _ (fun _ => hS) ?_
              clear hK
              (try simp only [Act.put, List.setIfInBounds_toArray, List.set_cons_zero, List.set_cons_succ])
              (try simp only [Nat.zero_add])
              refine twoT (i := 9) (j := 10) (by kernel_rfl) rfl (by rfl) rfl (by rfl) (fun K hK => ?_) (fun K hK => ?_)
              · go_simp
                have hS : v52.cell? ⟨w.heap.size, 0, none⟩ = some (.int .i64 vars) ∧ v52.cell? ⟨w.heap.size, 1, none⟩ = some (.slice A n c) := ⟨keepBox HB52.out cK_c_0, keepBox HB52.out cK_c_1⟩
                refine hK _ _ (fun _ => hS) ?_
                clear hK
                (try simp only [Act.put, List.setIfInBounds_toArray, List.set_cons_zero, List.set_cons_succ])
                refine oneT (i := 10) (by kernel_rfl) rfl (by rfl) (fun K hK => ?_)
                obtain ⟨v54, hv54⟩ : ∃ v54 : World, v54 = v52.alloc (.cells #[.int .i64 0, .slice none 0 0] 24) := ⟨_, rfl⟩
                have bv54 : Below v52.heap.size v52 v54 := by rw [hv54]; exact below_new _ _
                have zv54 : v52.heap.size < v54.heap.size := by rw [hv54]; simp
                have OR54 := Lib.hid (OR52.out.keep bv54)
                have KB54 : Hid (Blk v54 v52.heap.size 24 #[.int .i64 0, .slice none 0 0]) := by rw [hv54]; exact Blk.new _ _ _
                have HB54 := Lib.hid (below_next HB52.out bv54)
                have lw54 := HB54.out.size
                go_simp
                rw [← hv54]
                clear hv54
                have hS : v54.cell? ⟨w.heap.size, 0, none⟩ = some (.int .i64 vars) ∧ v54.cell? ⟨w.heap.size, 1, none⟩ = some (.slice A n c) := ⟨keepBox HB54.out cK_c_0, keepBox HB54.out cK_c_1⟩
                refine hK _ _ (fun _ => hS) ?_
                clear hK
                (try simp only [Act.put, List.setIfInBounds_toArray, List.set_cons_zero, List.set_cons_succ])
                refine oneT (i := 11) (by kernel_rfl) rfl (by rfl) (fun K hK => ?_)
                have e0 := KB54.out.cell 0
                have e1 := KB54.out.cell 1
                have f0 := KB54.out.frozen 0
                have f1 := KB54.out.frozen 1
                simp at e0 e1
                have le := KB54.out.lt
                obtain ⟨v55, hv55⟩ : ∃ v55 : World, v55 = (v54.setCell ⟨v52.heap.size, 0, none⟩ (.int .i64 vars)).setCell ⟨v52.heap.size, 1, none⟩ (.slice R52 (n + 1) cR52) := ⟨_, rfl⟩
                have KB55 : Hid (Blk v55 v52.heap.size 24 #[.int .i64 vars, .slice R52 (n + 1) cR52]) := by rw [hv55]; have := (KB54.out.set_ 0 (.int .i64 vars)).set_ 1 (.slice R52 (n + 1) cR52); simpa [Hid] using this
                have HB55 : Hid (Below wr.heap.size wr v55) := by rw [hv55]; exact below_put2 HB54.out (by omega) _ _
                have OR55 : Hid (Own 41 v55 wr.heap.size R52 (n + 1) cR52 (vs ++ [.slice C p f])) := by rw [hv55]; exact own_box OR54.out KB54.out row_ne_cnf _ _
                go_simp
                rw [← hv55]
                clear hv55 e0 e1 f0 f1 le
                have hS : v55.cell? ⟨w.heap.size, 0, none⟩ = some (.int .i64 vars) ∧ v55.cell? ⟨w.heap.size, 1, none⟩ = some (.slice A n c) := ⟨keepBox HB55.out cK_c_0, keepBox HB55.out cK_c_1⟩
                refine hK _ _ (fun _ => hS) ?_
                clear hK
                (try simp only [Act.put, List.setIfInBounds_toArray, List.set_cons_zero, List.set_cons_succ])
                refine doneT (by kernel_rfl) ?_ _
                have XX := Lib.hid (fin_grid G.out HA.out HB55.out HGV.out OR55.out)
                have k0 := KB55.out.cell 0
                have k1 := KB55.out.cell 1
                simp at k0 k1
                have lk := KB55.out.lt
                have HVx := Lib.hid (HV.out.keep HB55.out)
                have BW := HB55
                have hgb := XX.out.bd
                have BWW := Lib.hid (below_next HB.out BW.out)
                clear K_c K_f G HA
                obtain ⟨wz, hwz⟩ : ∃ wz : World, wz = v55 := ⟨_, rfl⟩
                subst hwz
                rcases HM.out with ⟨hne, hwy⟩ | ⟨hck2, hwy⟩
                · obtain ⟨p1, p2, hcc⟩ : ∃ p1 p2, Hid (checkC vars (xss ++ [cl]) = (p1, p2)) := ⟨_, _, rfl⟩
                  rw [hcc.out] at hne hwy
                  have hne' : p1 ≠ 0 := hne
                  have HWY := Lib.hid hwy
                  clear hne hwy
                  have d1 : (p1 != 0) = true := by simpa using hne'
                  have e1 : (p1 == p1) = true := by simp
                  have e2 : (p2 == p2) = true := by simp
                  go_wp2_with fail
                  refine (take_any _ _ _ _ _ _ (xss ++ [cl]) rs vars wz XX.out hv HVx.out 0 p1 p2 HWY.out false (by show _ = _; simp [hne'])).mono ?_
                  rintro e w21 ⟨rfl, hb21⟩
                  have a0 := keepBox hb21 k0
                  have a1 := keepBox hb21 k1
                  have la := (cell_lt a0).1
                  have G21 := Lib.hid ((XX.out.keep hb21).keep (below_new w21 (.cells #[.int .i64 p1, .int .i64 p2] 28)))
                  have B21 := Lib.hid (below_next BWW.out (below_next hb21 (below_new w21 (.cells #[.int .i64 p1, .int .i64 p2] 28))))
                  clear hb21 k0 k1 lk
                  go_wp2_with fail
                  refine (check_ref _ _ _ (xss ++ [cl]) vars _ G21.out hv p1 p2 hcc).mono ?_
                  rintro e w22 ⟨rfl, hb22⟩
                  obtain ⟨KT, Bx, _⟩ := blk1 hb22
                  have b0 := keepBox Bx a0
                  have b1 := keepBox Bx a1
                  have t0' := KT.cell 0
                  have t1' := KT.cell 1
                  simp at t0' t1'
                  have G22 := Lib.hid (G21.out.keep hb22)
                  have B22 := Lib.hid (below_next B21.out hb22)
                  clear hb22 Bx KT a0 a1 la
                  go_wp2_with fail
                  have Q0 := Lib.hid (show (w22.cell? ⟨w21.heap.size, 0, none⟩ = some (.int .i64 p1) ∧ w22.cell? ⟨w21.heap.size, 1, none⟩ = some (.int .i64 p2) ∧ w22.cell? ⟨v52.heap.size, 0, none⟩ = some (.int .i64 vars) ∧ w22.cell? ⟨v52.heap.size, 1, none⟩ = some (.slice R52 (n + 1) cR52)) ∧ Below w22.heap.size w22 w22 from ⟨⟨t0', t1', b0, b1⟩, Below.refl _ _⟩)
                  clear t0' t1' b0 b1
                  go_region_held3 (fun w' => (w'.cell? ⟨w21.heap.size, 0, none⟩ = some (.int .i64 p1) ∧ w'.cell? ⟨w21.heap.size, 1, none⟩ = some (.int .i64 p2) ∧ w'.cell? ⟨v52.heap.size, 0, none⟩ = some (.int .i64 vars) ∧ w'.cell? ⟨v52.heap.size, 1, none⟩ = some (.slice R52 (n + 1) cR52)) ∧ Below w22.heap.size w22 w') (first | exact held4 (by assumption) (by assumption) | exact held4 (by assumption) (below_new _ _) | exact held4 (by assumption) (below_drewN _ _) | exact held4 Q0.out (below_drewN _ 1))
                    ((go_at_call 23; (with_reducible refine (check_ref _ _ _ (xss ++ [cl]) vars _ ?_ hv p1 p2 hcc).mono ?_); (exact G22.out.keep (And.right (by assumption))); rintro e w23 ⟨rfl, hb23⟩))
                  all_goals
                    go_wp2_with fail
                    go_ret
                    exact ⟨rfl, below_next B22.out (And.right (by assumption))⟩
                · have HWY := Lib.hid hwy
                  clear hwy
                  go_wp2_with fail
                  refine (take_any _ _ _ _ _ _ (xss ++ [cl]) rs vars wz XX.out hv HVx.out (-1) 0 0 HWY.out true (by show _ = _; rfl)).mono ?_
                  rintro e w21 ⟨rfl, hb21⟩
                  have a0 := keepBox hb21 k0
                  have a1 := keepBox hb21 k1
                  have la := (cell_lt a0).1
                  have G21 := Lib.hid ((XX.out.keep hb21).keep (below_new w21 (.cells #[.int .i64 0, .int .i64 0] 28)))
                  have B21 := Lib.hid (below_next BWW.out (below_next hb21 (below_new w21 (.cells #[.int .i64 0, .int .i64 0] 28))))
                  clear hb21 k0 k1 lk
                  go_wp2_with fail
                  refine (check_ref _ _ _ (xss ++ [cl]) vars _ G21.out hv 0 0 hck2).mono ?_
                  rintro e w22 ⟨rfl, hb22⟩
                  obtain ⟨KT, Bx, _⟩ := blk1 hb22
                  have t0' := KT.cell 0
                  have t1' := KT.cell 1
                  simp at t0' t1'
                  have lt' := KT.lt
                  have B22 := Lib.hid (below_next B21.out hb22)
                  clear hb22 Bx KT a0 a1 la
                  go_wp2_with fail
                  go_ret
                  exact ⟨rfl, B22.out⟩
              · obtain ⟨v56, hv56⟩ : ∃ v56 : World, v56 = v52.alloc (.cells #[.int .i64 0, .slice none 0 0] 24) := ⟨_, rfl⟩
                have bv56 : Below v52.heap.size v52 v56 := by rw [hv56]; exact below_new _ _
                have zv56 : v52.heap.size < v56.heap.size := by rw [hv56]; simp
                have OR56 := Lib.hid (OR52.out.keep bv56)
                have KB56 : Hid (Blk v56 v52.heap.size 24 #[.int .i64 0, .slice none 0 0]) := by rw [hv56]; exact Blk.new _ _ _
                have HB56 := Lib.hid (below_next HB52.out bv56)
                have lw56 := HB56.out.size
                go_simp
                rw [← hv56]
                clear hv56
                have hS : v56.cell? ⟨w.heap.size, 0, none⟩ = some (.int .i64 vars) ∧ v56.cell? ⟨w.heap.size, 1, none⟩ = some (.slice A n c) := ⟨keepBox HB56.out cK_c_0, keepBox HB56.out cK_c_1⟩
                refine hK _ _ (fun _ => hS) ?_
                clear hK
                (try simp only [Act.put, List.setIfInBounds_toArray, List.set_cons_zero, List.set_cons_succ])
                refine oneT (i := 9) (by kernel_rfl) rfl (by rfl) (fun K hK => ?_)
                go_simp
                have hS : v56.cell? ⟨w.heap.size, 0, none⟩ = some (.int .i64 vars) ∧ v56.cell? ⟨w.heap.size, 1, none⟩ = some (.slice A n c) := ⟨keepBox HB56.out cK_c_0, keepBox HB56.out cK_c_1⟩
                refine hK _ _ (fun _ => hS) ?_
                clear hK
                (try simp only [Act.put, List.setIfInBounds_toArray, List.set_cons_zero, List.set_cons_succ])
                refine oneT (i := 11) (by kernel_rfl) rfl (by rfl) (fun K hK => ?_)
                have e0 := KB56.out.cell 0
                have e1 := KB56.out.cell 1
                have f0 := KB56.out.frozen 0
                have f1 := KB56.out.frozen 1
                simp at e0 e1
                have le := KB56.out.lt
                obtain ⟨v58, hv58⟩ : ∃ v58 : World, v58 = (v56.setCell ⟨v52.heap.size, 0, none⟩ (.int .i64 vars)).setCell ⟨v52.heap.size, 1, none⟩ (.slice R52 (n + 1) cR52) := ⟨_, rfl⟩
                have KB58 : Hid (Blk v58 v52.heap.size 24 #[.int .i64 vars, .slice R52 (n + 1) cR52]) := by rw [hv58]; have := (KB56.out.set_ 0 (.int .i64 vars)).set_ 1 (.slice R52 (n + 1) cR52); simpa [Hid] using this
                have HB58 : Hid (Below wr.heap.size wr v58) := by rw [hv58]; exact below_put2 HB56.out (by omega) _ _
                have OR58 : Hid (Own 41 v58 wr.heap.size R52 (n + 1) cR52 (vs ++ [.slice C p f])) := by rw [hv58]; exact own_box OR56.out KB56.out row_ne_cnf _ _
                go_simp
                rw [← hv58]
                clear hv58 e0 e1 f0 f1 le
                have hS : v58.cell? ⟨w.heap.size, 0, none⟩ = some (.int .i64 vars) ∧ v58.cell? ⟨w.heap.size, 1, none⟩ = some (.slice A n c) := ⟨keepBox HB58.out cK_c_0, keepBox HB58.out cK_c_1⟩
                refine hK _ _ (fun _ => hS) ?_
                clear hK
                (try simp only [Act.put, List.setIfInBounds_toArray, List.set_cons_zero, List.set_cons_succ])
                refine doneT (by kernel_rfl) ?_ _
                have XX := Lib.hid (fin_grid G.out HA.out HB58.out HGV.out OR58.out)
                have k0 := KB58.out.cell 0
                have k1 := KB58.out.cell 1
                simp at k0 k1
                have lk := KB58.out.lt
                have HVx := Lib.hid (HV.out.keep HB58.out)
                have BW := HB58
                have hgb := XX.out.bd
                have BWW := Lib.hid (below_next HB.out BW.out)
                clear K_c K_f G HA
                obtain ⟨wz, hwz⟩ : ∃ wz : World, wz = v58 := ⟨_, rfl⟩
                subst hwz
                rcases HM.out with ⟨hne, hwy⟩ | ⟨hck2, hwy⟩
                · obtain ⟨p1, p2, hcc⟩ : ∃ p1 p2, Hid (checkC vars (xss ++ [cl]) = (p1, p2)) := ⟨_, _, rfl⟩
                  rw [hcc.out] at hne hwy
                  have hne' : p1 ≠ 0 := hne
                  have HWY := Lib.hid hwy
                  clear hne hwy
                  have d1 : (p1 != 0) = true := by simpa using hne'
                  have e1 : (p1 == p1) = true := by simp
                  have e2 : (p2 == p2) = true := by simp
                  go_wp2_with fail
                  refine (take_any _ _ _ _ _ _ (xss ++ [cl]) rs vars wz XX.out hv HVx.out 0 p1 p2 HWY.out false (by show _ = _; simp [hne'])).mono ?_
                  rintro e w21 ⟨rfl, hb21⟩
                  have a0 := keepBox hb21 k0
                  have a1 := keepBox hb21 k1
                  have la := (cell_lt a0).1
                  have G21 := Lib.hid ((XX.out.keep hb21).keep (below_new w21 (.cells #[.int .i64 p1, .int .i64 p2] 28)))
                  have B21 := Lib.hid (below_next BWW.out (below_next hb21 (below_new w21 (.cells #[.int .i64 p1, .int .i64 p2] 28))))
                  clear hb21 k0 k1 lk
                  go_wp2_with fail
                  refine (check_ref _ _ _ (xss ++ [cl]) vars _ G21.out hv p1 p2 hcc).mono ?_
                  rintro e w22 ⟨rfl, hb22⟩
                  obtain ⟨KT, Bx, _⟩ := blk1 hb22
                  have b0 := keepBox Bx a0
                  have b1 := keepBox Bx a1
                  have t0' := KT.cell 0
                  have t1' := KT.cell 1
                  simp at t0' t1'
                  have G22 := Lib.hid (G21.out.keep hb22)
                  have B22 := Lib.hid (below_next B21.out hb22)
                  clear hb22 Bx KT a0 a1 la
                  go_wp2_with fail
                  have Q0 := Lib.hid (show (w22.cell? ⟨w21.heap.size, 0, none⟩ = some (.int .i64 p1) ∧ w22.cell? ⟨w21.heap.size, 1, none⟩ = some (.int .i64 p2) ∧ w22.cell? ⟨v52.heap.size, 0, none⟩ = some (.int .i64 vars) ∧ w22.cell? ⟨v52.heap.size, 1, none⟩ = some (.slice R52 (n + 1) cR52)) ∧ Below w22.heap.size w22 w22 from ⟨⟨t0', t1', b0, b1⟩, Below.refl _ _⟩)
                  clear t0' t1' b0 b1
                  go_region_held3 (fun w' => (w'.cell? ⟨w21.heap.size, 0, none⟩ = some (.int .i64 p1) ∧ w'.cell? ⟨w21.heap.size, 1, none⟩ = some (.int .i64 p2) ∧ w'.cell? ⟨v52.heap.size, 0, none⟩ = some (.int .i64 vars) ∧ w'.cell? ⟨v52.heap.size, 1, none⟩ = some (.slice R52 (n + 1) cR52)) ∧ Below w22.heap.size w22 w') (first | exact held4 (by assumption) (by assumption) | exact held4 (by assumption) (below_new _ _) | exact held4 (by assumption) (below_drewN _ _) | exact held4 Q0.out (below_drewN _ 1))
                    ((go_at_call 23; (with_reducible refine (check_ref _ _ _ (xss ++ [cl]) vars _ ?_ hv p1 p2 hcc).mono ?_); (exact G22.out.keep (And.right (by assumption))); rintro e w23 ⟨rfl, hb23⟩))
                  all_goals
                    go_wp2_with fail
                    go_ret
                    exact ⟨rfl, below_next B22.out (And.right (by assumption))⟩
                · have HWY := Lib.hid hwy
                  clear hwy
                  go_wp2_with fail
                  refine (take_any _ _ _ _ _ _ (xss ++ [cl]) rs vars wz XX.out hv HVx.out (-1) 0 0 HWY.out true (by show _ = _; rfl)).mono ?_
                  rintro e w21 ⟨rfl, hb21⟩
                  have a0 := keepBox hb21 k0
                  have a1 := keepBox hb21 k1
                  have la := (cell_lt a0).1
                  have G21 := Lib.hid ((XX.out.keep hb21).keep (below_new w21 (.cells #[.int .i64 0, .int .i64 0] 28)))
                  have B21 := Lib.hid (below_next BWW.out (below_next hb21 (below_new w21 (.cells #[.int .i64 0, .int .i64 0] 28))))
                  clear hb21 k0 k1 lk
                  go_wp2_with fail
                  refine (check_ref _ _ _ (xss ++ [cl]) vars _ G21.out hv 0 0 hck2).mono ?_
                  rintro e w22 ⟨rfl, hb22⟩
                  obtain ⟨KT, Bx, _⟩ := blk1 hb22
                  have t0' := KT.cell 0
                  have t1' := KT.cell 1
                  simp at t0' t1'
                  have lt' := KT.lt
                  have B22 := Lib.hid (below_next B21.out hb22)
                  clear hb22 Bx KT a0 a1 la
                  go_wp2_with fail
                  go_ret
                  exact ⟨rfl, B22.out⟩
            · obtain ⟨v59, hv59⟩ : ∃ v59 : World, v59 = v51.alloc (.cells #[.int .i64 0, .slice none 0 0] 24) := ⟨_, rfl⟩
              have bv59 : Below v51.heap.size v51 v59 := by rw [hv59]; exact below_new _ _
              have zv59 : v51.heap.size < v59.heap.size := by rw [hv59]; simp
              have OR59 := Lib.hid (OR51.out.keep bv59)
              have SB59 := Lib.hid (SB51.out.keep bv59)
              have KB59 : Hid (Blk v59 v51.heap.size 24 #[.int .i64 0, .slice none 0 0]) := by rw [hv59]; exact Blk.new _ _ _
              have HB59 := Lib.hid (below_next HB51.out bv59)
              have lw59 := HB59.out.size
              go_simp
              rw [← hv59]
              clear hv59
              have hS : v59.cell? ⟨w.heap.size, 0, none⟩ = some (.int .i64 vars) ∧ v59.cell? ⟨w.heap.size, 1, none⟩ = some (.slice A n c) := ⟨keepBox HB59.out cK_c_0, keepBox HB59.out cK_c_1⟩
              refine hK _ _ (fun _ => hS) ?_
              clear hK
              (try simp only [Act.put, List.setIfInBounds_toArray, List.set_cons_zero, List.set_cons_succ])
              refine oneT (i := 8) (by kernel_rfl) rfl (by rfl) (fun K hK => ?_)
              refine wp_append_sl _ (.tmp 54) (.tmp 56) 22 rfl wr.heap.size 41 i0 _ 24 Try.underlying22 hi0 hz0 hz1' hz2 rfl R51 n cR51 _ rfl OR59.out (some ⟨v0.heap.size, 0, none⟩) 1 1 [.slice C p f] rfl SB59.out (by simp [Value.oneCell']) (by simp only [maxLen]; omega) (by omega) (by omega) ?_
              intro R60 cR60 v60 hO60 hG60 hA60
              have HB60 : Hid (Below wr.heap.size wr v60) := HB59.out.grown hG60 HB59.out.size (fun k' hk' => own_base OR59.out hk')
              have lw60 := HB60.out.size
              have zg60 := hG60.size
              have OR60 : Hid (Own 41 v60 wr.heap.size R60 (n + 1) cR60 (vs ++ [.slice C p f])) := by simpa [Hid] using hO60
              have KB60 : Hid (Blk v60 v51.heap.size 24 #[.int .i64 0, .slice none 0 0]) := KB59.out.grown hG60 (fun e => (OR59.out.ne_typed (Typed.of_blk KB59.out) row_ne_cnf).elim (fun h => by rw [h] at e; cases e) (fun h => h e.symm))
              clear hO60 hG60 hA60
              have hS : v60.cell? ⟨w.heap.size, 0, none⟩ = some (.int .i64 vars) ∧ v60.cell? ⟨w.heap.size, 1, none⟩ = some (.slice A n c) := ⟨keepBox HB60.out cK_c_0, keepBox HB60.out cK_c_1⟩
              refine hK _ _ (fun _ => hS) ?_
              clear hK
              (try simp only [Act.put, List.setIfInBounds_toArray, List.set_cons_zero, List.set_cons_succ])
              (try simp only [Nat.zero_add])
              refine oneT (i := 9) (by kernel_rfl) rfl (by rfl) (fun K hK => ?_)
              go_simp
              have hS : v60.cell? ⟨w.heap.size, 0, none⟩ = some (.int .i64 vars) ∧ v60.cell? ⟨w.heap.size, 1, none⟩ = some (.slice A n c) := ⟨keepBox HB60.out cK_c_0, keepBox HB60.out cK_c_1⟩
              refine hK _ _ (fun _ => hS) ?_
              clear hK
              (try simp only [Act.put, List.setIfInBounds_toArray, List.set_cons_zero, List.set_cons_succ])
              refine oneT (i := 11) (by kernel_rfl) rfl (by rfl) (fun K hK => ?_)
              have e0 := KB60.out.cell 0
              have e1 := KB60.out.cell 1
              have f0 := KB60.out.frozen 0
              have f1 := KB60.out.frozen 1
              simp at e0 e1
              have le := KB60.out.lt
              obtain ⟨v62, hv62⟩ : ∃ v62 : World, v62 = (v60.setCell ⟨v51.heap.size, 0, none⟩ (.int .i64 vars)).setCell ⟨v51.heap.size, 1, none⟩ (.slice R60 (n + 1) cR60) := ⟨_, rfl⟩
              have KB62 : Hid (Blk v62 v51.heap.size 24 #[.int .i64 vars, .slice R60 (n + 1) cR60]) := by rw [hv62]; have := (KB60.out.set_ 0 (.int .i64 vars)).set_ 1 (.slice R60 (n + 1) cR60); simpa [Hid] using this
              have HB62 : Hid (Below wr.heap.size wr v62) := by rw [hv62]; exact below_put2 HB60.out (by omega) _ _
              have OR62 : Hid (Own 41 v62 wr.heap.size R60 (n + 1) cR60 (vs ++ [.slice C p f])) := by rw [hv62]; exact own_box OR60.out KB60.out row_ne_cnf _ _
              go_simp
              rw [← hv62]
              clear hv62 e0 e1 f0 f1 le
              have hS : v62.cell? ⟨w.heap.size, 0, none⟩ = some (.int .i64 vars) ∧ v62.cell? ⟨w.heap.size, 1, none⟩ = some (.slice A n c) := ⟨keepBox HB62.out cK_c_0, keepBox HB62.out cK_c_1⟩
              refine hK _ _ (fun _ => hS) ?_
              clear hK
              (try simp only [Act.put, List.setIfInBounds_toArray, List.set_cons_zero, List.set_cons_succ])
              refine doneT (by kernel_rfl) ?_ _
              have XX := Lib.hid (fin_grid G.out HA.out HB62.out HGV.out OR62.out)
              have k0 := KB62.out.cell 0
              have k1 := KB62.out.cell 1
              simp at k0 k1
              have lk := KB62.out.lt
              have HVx := Lib.hid (HV.out.keep HB62.out)
              have BW := HB62
              have hgb := XX.out.bd
              have BWW := Lib.hid (below_next HB.out BW.out)
              clear K_c K_f G HA
              obtain ⟨wz, hwz⟩ : ∃ wz : World, wz = v62 := ⟨_, rfl⟩
              subst hwz
              rcases HM.out with ⟨hne, hwy⟩ | ⟨hck2, hwy⟩
              · obtain ⟨p1, p2, hcc⟩ : ∃ p1 p2, Hid (checkC vars (xss ++ [cl]) = (p1, p2)) := ⟨_, _, rfl⟩
                rw [hcc.out] at hne hwy
                have hne' : p1 ≠ 0 := hne
                have HWY := Lib.hid hwy
                clear hne hwy
                have d1 : (p1 != 0) = true := by simpa using hne'
                have e1 : (p1 == p1) = true := by simp
                have e2 : (p2 == p2) = true := by simp
                go_wp2_with fail
                refine (take_any _ _ _ _ _ _ (xss ++ [cl]) rs vars wz XX.out hv HVx.out 0 p1 p2 HWY.out false (by show _ = _; simp [hne'])).mono ?_
                rintro e w21 ⟨rfl, hb21⟩
                have a0 := keepBox hb21 k0
                have a1 := keepBox hb21 k1
                have la := (cell_lt a0).1
                have G21 := Lib.hid ((XX.out.keep hb21).keep (below_new w21 (.cells #[.int .i64 p1, .int .i64 p2] 28)))
                have B21 := Lib.hid (below_next BWW.out (below_next hb21 (below_new w21 (.cells #[.int .i64 p1, .int .i64 p2] 28))))
                clear hb21 k0 k1 lk
                go_wp2_with fail
                refine (check_ref _ _ _ (xss ++ [cl]) vars _ G21.out hv p1 p2 hcc).mono ?_
                rintro e w22 ⟨rfl, hb22⟩
                obtain ⟨KT, Bx, _⟩ := blk1 hb22
                have b0 := keepBox Bx a0
                have b1 := keepBox Bx a1
                have t0' := KT.cell 0
                have t1' := KT.cell 1
                simp at t0' t1'
                have G22 := Lib.hid (G21.out.keep hb22)
                have B22 := Lib.hid (below_next B21.out hb22)
                clear hb22 Bx KT a0 a1 la
                go_wp2_with fail
                have Q0 := Lib.hid (show (w22.cell? ⟨w21.heap.size, 0, none⟩ = some (.int .i64 p1) ∧ w22.cell? ⟨w21.heap.size, 1, none⟩ = some (.int .i64 p2) ∧ w22.cell? ⟨v51.heap.size, 0, none⟩ = some (.int .i64 vars) ∧ w22.cell? ⟨v51.heap.size, 1, none⟩ = some (.slice R60 (n + 1) cR60)) ∧ Below w22.heap.size w22 w22 from ⟨⟨t0', t1', b0, b1⟩, Below.refl _ _⟩)
                clear t0' t1' b0 b1
                go_region_held3 (fun w' => (w'.cell? ⟨w21.heap.size, 0, none⟩ = some (.int .i64 p1) ∧ w'.cell? ⟨w21.heap.size, 1, none⟩ = some (.int .i64 p2) ∧ w'.cell? ⟨v51.heap.size, 0, none⟩ = some (.int .i64 vars) ∧ w'.cell? ⟨v51.heap.size, 1, none⟩ = some (.slice R60 (n + 1) cR60)) ∧ Below w22.heap.size w22 w') (first | exact held4 (by assumption) (by assumption) | exact held4 (by assumption) (below_new _ _) | exact held4 (by assumption) (below_drewN _ _) | exact held4 Q0.out (below_drewN _ 1))
                  ((go_at_call 23; (with_reducible refine (check_ref _ _ _ (xss ++ [cl]) vars _ ?_ hv p1 p2 hcc).mono ?_); (exact G22.out.keep (And.right (by assumption))); rintro e w23 ⟨rfl, hb23⟩))
                all_goals
                  go_wp2_with fail
                  go_ret
                  exact ⟨rfl, below_next B22.out (And.right (by assumption))⟩
              · have HWY := Lib.hid hwy
                clear hwy
                go_wp2_with fail
                refine (take_any _ _ _ _ _ _ (xss ++ [cl]) rs vars wz XX.out hv HVx.out (-1) 0 0 HWY.out true (by show _ = _; rfl)).mono ?_
                rintro e w21 ⟨rfl, hb21⟩
                have a0 := keepBox hb21 k0
                have a1 := keepBox hb21 k1
                have la := (cell_lt a0).1
                have G21 := Lib.hid ((XX.out.keep hb21).keep (below_new w21 (.cells #[.int .i64 0, .int .i64 0] 28)))
                have B21 := Lib.hid (below_next BWW.out (below_next hb21 (below_new w21 (.cells #[.int .i64 0, .int .i64 0] 28))))
                clear hb21 k0 k1 lk
                go_wp2_with fail
                refine (check_ref _ _ _ (xss ++ [cl]) vars _ G21.out hv 0 0 hck2).mono ?_
                rintro e w22 ⟨rfl, hb22⟩
                obtain ⟨KT, Bx, _⟩ := blk1 hb22
                have t0' := KT.cell 0
                have t1' := KT.cell 1
                simp at t0' t1'
                have lt' := KT.lt
                have B22 := Lib.hid (below_next B21.out hb22)
                clear hb22 Bx KT a0 a1 la
                go_wp2_with fail
                go_ret
                exact ⟨rfl, B22.out⟩
          · obtain ⟨v63, hv63⟩ : ∃ v63 : World, v63 = v50.alloc (.cells #[.int .i64 0, .slice none 0 0] 24) := ⟨_, rfl⟩
            have bv63 : Below v50.heap.size v50 v63 := by rw [hv63]; exact below_new _ _
            have zv63 : v50.heap.size < v63.heap.size := by rw [hv63]; simp
            have OR63 := Lib.hid (OR50.out.keep bv63)
            have SB63 := Lib.hid (SB50.out.keep bv63)
            have KB63 : Hid (Blk v63 v50.heap.size 24 #[.int .i64 0, .slice none 0 0]) := by rw [hv63]; exact Blk.new _ _ _
            have HB63 := Lib.hid (below_next HB50.out bv63)
            have lw63 := HB63.out.size
            go_simp
            rw [← hv63]
            clear hv63
            have hS : v63.cell? ⟨w.heap.size, 0, none⟩ = some (.int .i64 vars) ∧ v63.cell? ⟨w.heap.size, 1, none⟩ = some (.slice A n c) := ⟨keepBox HB63.out cK_c_0, keepBox HB63.out cK_c_1⟩
            refine hK _ _ (fun _ => hS) ?_
            clear hK
            (try simp only [Act.put, List.setIfInBounds_toArray, List.set_cons_zero, List.set_cons_succ])
            refine oneT (i := 5) (by kernel_rfl) rfl (by rfl) (fun K hK => ?_)
            refine wp_append_sl _ (.tmp 51) (.tmp 53) 22 rfl wr.heap.size 41 i0 _ 24 Try.underlying22 hi0 hz0 hz1' hz2 rfl (some ⟨v49.heap.size, 0, none⟩) 0 0 _ rfl OR63.out A n c vs rfl (HSL.out.keep HB63.out) HONE.out (by simp only [maxLen]; omega) (by omega) (by omega) ?_
            intro R64 cR64 v64 hO64 hG64 hA64
            have HB64 : Hid (Below wr.heap.size wr v64) := HB63.out.grown hG64 HB63.out.size (fun k' hk' => own_base OR63.out hk')
            have lw64 := HB64.out.size
            have zg64 := hG64.size
            have OR64 : Hid (Own 41 v64 wr.heap.size R64 n cR64 vs) := by simpa [Hid] using hO64
            have SB64 : Hid (Sl v64 (some ⟨v0.heap.size, 0, none⟩) 1 1 [.slice C p f]) := SB63.out.kept' hG64 (fun e => NE50 e)
            have NE64 : blockOf R64 ≠ some v0.heap.size := hA64.elim (fun e => by rw [e]; exact NE50) (fun e => by rw [e]; simp; omega)
            have KB64 : Hid (Blk v64 v50.heap.size 24 #[.int .i64 0, .slice none 0 0]) := KB63.out.grown hG64 (fun e => (OR63.out.ne_typed (Typed.of_blk KB63.out) row_ne_cnf).elim (fun h => by rw [h] at e; cases e) (fun h => h e.symm))
            clear hO64 hG64 hA64
            have hS : v64.cell? ⟨w.heap.size, 0, none⟩ = some (.int .i64 vars) ∧ v64.cell? ⟨w.heap.size, 1, none⟩ = some (.slice A n c) := ⟨keepBox HB64.out cK_c_0, keepBox HB64.out cK_c_1⟩
            refine hK _ _ (fun _ => hS) ?_
            clear hK
            (try simp only [Act.put, List.setIfInBounds_toArray, List.set_cons_zero, List.set_cons_succ])
            (try simp only [Nat.zero_add])
            refine oneT (i := 8) (by kernel_rfl) rfl (by rfl) (fun K hK => ?_)
            refine wp_append_sl _ (.tmp 54) (.tmp 56) 22 rfl wr.heap.size 41 i0 _ 24 Try.underlying22 hi0 hz0 hz1' hz2 rfl R64 n cR64 _ rfl OR64.out (some ⟨v0.heap.size, 0, none⟩) 1 1 [.slice C p f] rfl SB64.out (by simp [Value.oneCell']) (by simp only [maxLen]; omega) (by omega) (by omega) ?_
            intro R65 cR65 v65 hO65 hG65 hA65
            have HB65 : Hid (Below wr.heap.size wr v65) := HB64.out.grown hG65 HB64.out.size (fun k' hk' => own_base OR64.out hk')
            have lw65 := HB65.out.size
            have zg65 := hG65.size
            have OR65 : Hid (Own 41 v65 wr.heap.size R65 (n + 1) cR65 (vs ++ [.slice C p f])) := by simpa [Hid] using hO65
            have KB65 : Hid (Blk v65 v50.heap.size 24 #[.int .i64 0, .slice none 0 0]) := KB64.out.grown hG65 (fun e => (OR64.out.ne_typed (Typed.of_blk KB64.out) row_ne_cnf).elim (fun h => by rw [h] at e; cases e) (fun h => h e.symm))
            clear hO65 hG65 hA65
            have hS : v65.cell? ⟨w.heap.size, 0, none⟩ = some (.int .i64 vars) ∧ v65.cell? ⟨w.heap.size, 1, none⟩ = some (.slice A n c) := ⟨keepBox HB65.out cK_c_0, keepBox HB65.out cK_c_1⟩
            refine hK _ _ (fun _ => hS) ?_
            clear hK
            (try simp only [Act.put, List.setIfInBounds_toArray, List.set_cons_zero, List.set_cons_succ])
            (try simp only [Nat.zero_add])
            refine oneT (i := 9) (by kernel_rfl) rfl (by rfl) (fun K hK => ?_)
            go_simp
            have hS : v65.cell? ⟨w.heap.size, 0, none⟩ = some (.int .i64 vars) ∧ v65.cell? ⟨w.heap.size, 1, none⟩ = some (.slice A n c) := ⟨keepBox HB65.out cK_c_0, keepBox HB65.out cK_c_1⟩
            refine hK _ _ (fun _ => hS) ?_
            clear hK
            (try simp only [Act.put, List.setIfInBounds_toArray, List.set_cons_zero, List.set_cons_succ])
            refine oneT (i := 11) (by kernel_rfl) rfl (by rfl) (fun K hK => ?_)
            have e0 := KB65.out.cell 0
            have e1 := KB65.out.cell 1
            have f0 := KB65.out.frozen 0
            have f1 := KB65.out.frozen 1
            simp at e0 e1
            have le := KB65.out.lt
            obtain ⟨v67, hv67⟩ : ∃ v67 : World, v67 = (v65.setCell ⟨v50.heap.size, 0, none⟩ (.int .i64 vars)).setCell ⟨v50.heap.size, 1, none⟩ (.slice R65 (n + 1) cR65) := ⟨_, rfl⟩
            have KB67 : Hid (Blk v67 v50.heap.size 24 #[.int .i64 vars, .slice R65 (n + 1) cR65]) := by rw [hv67]; have := (KB65.out.set_ 0 (.int .i64 vars)).set_ 1 (.slice R65 (n + 1) cR65); simpa [Hid] using this
            have HB67 : Hid (Below wr.heap.size wr v67) := by rw [hv67]; exact below_put2 HB65.out (by omega) _ _
            have OR67 : Hid (Own 41 v67 wr.heap.size R65 (n + 1) cR65 (vs ++ [.slice C p f])) := by rw [hv67]; exact own_box OR65.out KB65.out row_ne_cnf _ _
            go_simp
            rw [← hv67]
            clear hv67 e0 e1 f0 f1 le
            have hS : v67.cell? ⟨w.heap.size, 0, none⟩ = some (.int .i64 vars) ∧ v67.cell? ⟨w.heap.size, 1, none⟩ = some (.slice A n c) := ⟨keepBox HB67.out cK_c_0, keepBox HB67.out cK_c_1⟩
            refine hK _ _ (fun _ => hS) ?_
            clear hK
            (try simp only [Act.put, List.setIfInBounds_toArray, List.set_cons_zero, List.set_cons_succ])
            refine doneT (by kernel_rfl) ?_ _
            have XX := Lib.hid (fin_grid G.out HA.out HB67.out HGV.out OR67.out)
            have k0 := KB67.out.cell 0
            have k1 := KB67.out.cell 1
            simp at k0 k1
            have lk := KB67.out.lt
            have HVx := Lib.hid (HV.out.keep HB67.out)
            have BW := HB67
            have hgb := XX.out.bd
            have BWW := Lib.hid (below_next HB.out BW.out)
            clear K_c K_f G HA
            obtain ⟨wz, hwz⟩ : ∃ wz : World, wz = v67 := ⟨_, rfl⟩
            subst hwz
            rcases HM.out with ⟨hne, hwy⟩ | ⟨hck2, hwy⟩
            · obtain ⟨p1, p2, hcc⟩ : ∃ p1 p2, Hid (checkC vars (xss ++ [cl]) = (p1, p2)) := ⟨_, _, rfl⟩
              rw [hcc.out] at hne hwy
              have hne' : p1 ≠ 0 := hne
              have HWY := Lib.hid hwy
              clear hne hwy
              have d1 : (p1 != 0) = true := by simpa using hne'
              have e1 : (p1 == p1) = true := by simp
              have e2 : (p2 == p2) = true := by simp
              go_wp2_with fail
              refine (take_any _ _ _ _ _ _ (xss ++ [cl]) rs vars wz XX.out hv HVx.out 0 p1 p2 HWY.out false (by show _ = _; simp [hne'])).mono ?_
              rintro e w21 ⟨rfl, hb21⟩
              have a0 := keepBox hb21 k0
              have a1 := keepBox hb21 k1
              have la := (cell_lt a0).1
              have G21 := Lib.hid ((XX.out.keep hb21).keep (below_new w21 (.cells #[.int .i64 p1, .int .i64 p2] 28)))
              have B21 := Lib.hid (below_next BWW.out (below_next hb21 (below_new w21 (.cells #[.int .i64 p1, .int .i64 p2] 28))))
              clear hb21 k0 k1 lk
              go_wp2_with fail
              refine (check_ref _ _ _ (xss ++ [cl]) vars _ G21.out hv p1 p2 hcc).mono ?_
              rintro e w22 ⟨rfl, hb22⟩
              obtain ⟨KT, Bx, _⟩ := blk1 hb22
              have b0 := keepBox Bx a0
              have b1 := keepBox Bx a1
              have t0' := KT.cell 0
              have t1' := KT.cell 1
              simp at t0' t1'
              have G22 := Lib.hid (G21.out.keep hb22)
              have B22 := Lib.hid (below_next B21.out hb22)
              clear hb22 Bx KT a0 a1 la
              go_wp2_with fail
              have Q0 := Lib.hid (show (w22.cell? ⟨w21.heap.size, 0, none⟩ = some (.int .i64 p1) ∧ w22.cell? ⟨w21.heap.size, 1, none⟩ = some (.int .i64 p2) ∧ w22.cell? ⟨v50.heap.size, 0, none⟩ = some (.int .i64 vars) ∧ w22.cell? ⟨v50.heap.size, 1, none⟩ = some (.slice R65 (n + 1) cR65)) ∧ Below w22.heap.size w22 w22 from ⟨⟨t0', t1', b0, b1⟩, Below.refl _ _⟩)
              clear t0' t1' b0 b1
              go_region_held3 (fun w' => (w'.cell? ⟨w21.heap.size, 0, none⟩ = some (.int .i64 p1) ∧ w'.cell? ⟨w21.heap.size, 1, none⟩ = some (.int .i64 p2) ∧ w'.cell? ⟨v50.heap.size, 0, none⟩ = some (.int .i64 vars) ∧ w'.cell? ⟨v50.heap.size, 1, none⟩ = some (.slice R65 (n + 1) cR65)) ∧ Below w22.heap.size w22 w') (first | exact held4 (by assumption) (by assumption) | exact held4 (by assumption) (below_new _ _) | exact held4 (by assumption) (below_drewN _ _) | exact held4 Q0.out (below_drewN _ 1))
                ((go_at_call 23; (with_reducible refine (check_ref _ _ _ (xss ++ [cl]) vars _ ?_ hv p1 p2 hcc).mono ?_); (exact G22.out.keep (And.right (by assumption))); rintro e w23 ⟨rfl, hb23⟩))
              all_goals
                go_wp2_with fail
                go_ret
                exact ⟨rfl, below_next B22.out (And.right (by assumption))⟩
            · have HWY := Lib.hid hwy
              clear hwy
              go_wp2_with fail
              refine (take_any _ _ _ _ _ _ (xss ++ [cl]) rs vars wz XX.out hv HVx.out (-1) 0 0 HWY.out true (by show _ = _; rfl)).mono ?_
              rintro e w21 ⟨rfl, hb21⟩
              have a0 := keepBox hb21 k0
              have a1 := keepBox hb21 k1
              have la := (cell_lt a0).1
              have G21 := Lib.hid ((XX.out.keep hb21).keep (below_new w21 (.cells #[.int .i64 0, .int .i64 0] 28)))
              have B21 := Lib.hid (below_next BWW.out (below_next hb21 (below_new w21 (.cells #[.int .i64 0, .int .i64 0] 28))))
              clear hb21 k0 k1 lk
              go_wp2_with fail
              refine (check_ref _ _ _ (xss ++ [cl]) vars _ G21.out hv 0 0 hck2).mono ?_
              rintro e w22 ⟨rfl, hb22⟩
              obtain ⟨KT, Bx, _⟩ := blk1 hb22
              have t0' := KT.cell 0
              have t1' := KT.cell 1
              simp at t0' t1'
              have lt' := KT.lt
              have B22 := Lib.hid (below_next B21.out hb22)
              clear hb22 Bx KT a0 a1 la
              go_wp2_with fail
              go_ret
              exact ⟨rfl, B22.out⟩
        · obtain ⟨v68, hv68⟩ : ∃ v68 : World, v68 = v49.alloc (.cells #[.int .i64 0, .slice none 0 0] 24) := ⟨_, rfl⟩
          have bv68 : Below v49.heap.size v49 v68 := by rw [hv68]; exact below_new _ _
          have zv68 : v49.heap.size < v68.heap.size := by rw [hv68]; simp
          have SB68 := Lib.hid (SB49.out.keep bv68)
          have KB68 : Hid (Blk v68 v49.heap.size 24 #[.int .i64 0, .slice none 0 0]) := by rw [hv68]; exact Blk.new _ _ _
          have HB68 := Lib.hid (below_next HB49.out bv68)
          have lw68 := HB68.out.size
          go_simp
          rw [← hv68]
          clear hv68
          have hS : v68.cell? ⟨w.heap.size, 0, none⟩ = some (.int .i64 vars) ∧ v68.cell? ⟨w.heap.size, 1, none⟩ = some (.slice A n c) := ⟨keepBox HB68.out cK_c_0, keepBox HB68.out cK_c_1⟩
          refine hK _ _ (fun _ => hS) ?_
          clear hK
          (try simp only [Act.put, List.setIfInBounds_toArray, List.set_cons_zero, List.set_cons_succ])
          refine oneT (i := 2) (by kernel_rfl) rfl (by rfl) (fun K hK => ?_)
          obtain ⟨v69, hv69⟩ : ∃ v69 : World, v69 = v68.alloc (.cells #[] 41) := ⟨_, rfl⟩
          have bv69 : Below v68.heap.size v68 v69 := by rw [hv69]; exact below_new _ _
          have zv69 : v68.heap.size < v69.heap.size := by rw [hv69]; simp
          have SB69 := Lib.hid (SB68.out.keep bv69)
          have KB69 := Lib.hid (KB68.out.keep bv69)
          have OR69 : Hid (Own 41 v69 wr.heap.size (some ⟨v68.heap.size, 0, none⟩) 0 0 []) := by rw [hv69]; exact own_empty _ _ _ rfl (by omega)
          have NE69 : blockOf (some (⟨v68.heap.size, 0, none⟩ : Addr)) ≠ some v0.heap.size := by simp [blockOf]; omega
          have HB69 := Lib.hid (below_next HB68.out bv69)
          have lw69 := HB69.out.size
          go_simp
          rw [← hv69]
          clear hv69
          have hS : v69.cell? ⟨w.heap.size, 0, none⟩ = some (.int .i64 vars) ∧ v69.cell? ⟨w.heap.size, 1, none⟩ = some (.slice A n c) := ⟨keepBox HB69.out cK_c_0, keepBox HB69.out cK_c_1⟩
          refine hK _ _ (fun _ => hS) ?_
          clear hK
          (try simp only [Act.put, List.setIfInBounds_toArray, List.set_cons_zero, List.set_cons_succ])
          refine oneT (i := 5) (by kernel_rfl) rfl (by rfl) (fun K hK => ?_)
          refine wp_append_sl _ (.tmp 51) (.tmp 53) 22 rfl wr.heap.size 41 i0 _ 24 Try.underlying22 hi0 hz0 hz1' hz2 rfl (some ⟨v68.heap.size, 0, none⟩) 0 0 _ rfl OR69.out A n c vs rfl (HSL.out.keep HB69.out) HONE.out (by simp only [maxLen]; omega) (by omega) (by omega) ?_
          intro R70 cR70 v70 hO70 hG70 hA70
          have HB70 : Hid (Below wr.heap.size wr v70) := HB69.out.grown hG70 HB69.out.size (fun k' hk' => own_base OR69.out hk')
          have lw70 := HB70.out.size
          have zg70 := hG70.size
          have OR70 : Hid (Own 41 v70 wr.heap.size R70 n cR70 vs) := by simpa [Hid] using hO70
          have SB70 : Hid (Sl v70 (some ⟨v0.heap.size, 0, none⟩) 1 1 [.slice C p f]) := SB69.out.kept' hG70 (fun e => NE69 e)
          have NE70 : blockOf R70 ≠ some v0.heap.size := hA70.elim (fun e => by rw [e]; exact NE69) (fun e => by rw [e]; simp; omega)
          have KB70 : Hid (Blk v70 v49.heap.size 24 #[.int .i64 0, .slice none 0 0]) := KB69.out.grown hG70 (fun e => (OR69.out.ne_typed (Typed.of_blk KB69.out) row_ne_cnf).elim (fun h => by rw [h] at e; cases e) (fun h => h e.symm))
          clear hO70 hG70 hA70
          have hS : v70.cell? ⟨w.heap.size, 0, none⟩ = some (.int .i64 vars) ∧ v70.cell? ⟨w.heap.size, 1, none⟩ = some (.slice A n c) := ⟨keepBox HB70.out cK_c_0, keepBox HB70.out cK_c_1⟩
          refine hK _ _ (fun _ => hS) ?_
          clear hK
          (try simp only [Act.put, List.setIfInBounds_toArray, List.set_cons_zero, List.set_cons_succ])
          (try simp only [Nat.zero_add])
          refine oneT (i := 8) (by kernel_rfl) rfl (by rfl) (fun K hK => ?_)
          refine wp_append_sl _ (.tmp 54) (.tmp 56) 22 rfl wr.heap.size 41 i0 _ 24 Try.underlying22 hi0 hz0 hz1' hz2 rfl R70 n cR70 _ rfl OR70.out (some ⟨v0.heap.size, 0, none⟩) 1 1 [.slice C p f] rfl SB70.out (by simp [Value.oneCell']) (by simp only [maxLen]; omega) (by omega) (by omega) ?_
          intro R71 cR71 v71 hO71 hG71 hA71
          have HB71 : Hid (Below wr.heap.size wr v71) := HB70.out.grown hG71 HB70.out.size (fun k' hk' => own_base OR70.out hk')
          have lw71 := HB71.out.size
          have zg71 := hG71.size
          have OR71 : Hid (Own 41 v71 wr.heap.size R71 (n + 1) cR71 (vs ++ [.slice C p f])) := by simpa [Hid] using hO71
          have KB71 : Hid (Blk v71 v49.heap.size 24 #[.int .i64 0, .slice none 0 0]) := KB70.out.grown hG71 (fun e => (OR70.out.ne_typed (Typed.of_blk KB70.out) row_ne_cnf).elim (fun h => by rw [h] at e; cases e) (fun h => h e.symm))
          clear hO71 hG71 hA71
          have hS : v71.cell? ⟨w.heap.size, 0, none⟩ = some (.int .i64 vars) ∧ v71.cell? ⟨w.heap.size, 1, none⟩ = some (.slice A n c) := ⟨keepBox HB71.out cK_c_0, keepBox HB71.out cK_c_1⟩
          refine hK _ _ (fun _ => hS) ?_
          clear hK
          (try simp only [Act.put, List.setIfInBounds_toArray, List.set_cons_zero, List.set_cons_succ])
          (try simp only [Nat.zero_add])
          refine oneT (i := 9) (by kernel_rfl) rfl (by rfl) (fun K hK => ?_)
          go_simp
          have hS : v71.cell? ⟨w.heap.size, 0, none⟩ = some (.int .i64 vars) ∧ v71.cell? ⟨w.heap.size, 1, none⟩ = some (.slice A n c) := ⟨keepBox HB71.out cK_c_0, keepBox HB71.out cK_c_1⟩
          refine hK _ _ (fun _ => hS) ?_
          clear hK
          (try simp only [Act.put, List.setIfInBounds_toArray, List.set_cons_zero, List.set_cons_succ])
          refine oneT (i := 11) (by kernel_rfl) rfl (by rfl) (fun K hK => ?_)
          have e0 := KB71.out.cell 0
          have e1 := KB71.out.cell 1
          have f0 := KB71.out.frozen 0
          have f1 := KB71.out.frozen 1
          simp at e0 e1
          have le := KB71.out.lt
          obtain ⟨v73, hv73⟩ : ∃ v73 : World, v73 = (v71.setCell ⟨v49.heap.size, 0, none⟩ (.int .i64 vars)).setCell ⟨v49.heap.size, 1, none⟩ (.slice R71 (n + 1) cR71) := ⟨_, rfl⟩
          have KB73 : Hid (Blk v73 v49.heap.size 24 #[.int .i64 vars, .slice R71 (n + 1) cR71]) := by rw [hv73]; have := (KB71.out.set_ 0 (.int .i64 vars)).set_ 1 (.slice R71 (n + 1) cR71); simpa [Hid] using this
          have HB73 : Hid (Below wr.heap.size wr v73) := by rw [hv73]; exact below_put2 HB71.out (by omega) _ _
          have OR73 : Hid (Own 41 v73 wr.heap.size R71 (n + 1) cR71 (vs ++ [.slice C p f])) := by rw [hv73]; exact own_box OR71.out KB71.out row_ne_cnf _ _
          go_simp
          rw [← hv73]
          clear hv73 e0 e1 f0 f1 le
          have hS : v73.cell? ⟨w.heap.size, 0, none⟩ = some (.int .i64 vars) ∧ v73.cell? ⟨w.heap.size, 1, none⟩ = some (.slice A n c) := ⟨keepBox HB73.out cK_c_0, keepBox HB73.out cK_c_1⟩
          refine hK _ _ (fun _ => hS) ?_
          clear hK
          (try simp only [Act.put, List.setIfInBounds_toArray, List.set_cons_zero, List.set_cons_succ])
          refine doneT (by kernel_rfl) ?_ _
          have XX := Lib.hid (fin_grid G.out HA.out HB73.out HGV.out OR73.out)
          have k0 := KB73.out.cell 0
          have k1 := KB73.out.cell 1
          simp at k0 k1
          have lk := KB73.out.lt
          have HVx := Lib.hid (HV.out.keep HB73.out)
          have BW := HB73
          have hgb := XX.out.bd
          have BWW := Lib.hid (below_next HB.out BW.out)
          clear K_c K_f G HA
          obtain ⟨wz, hwz⟩ : ∃ wz : World, wz = v73 := ⟨_, rfl⟩
          subst hwz
          rcases HM.out with ⟨hne, hwy⟩ | ⟨hck2, hwy⟩
          · obtain ⟨p1, p2, hcc⟩ : ∃ p1 p2, Hid (checkC vars (xss ++ [cl]) = (p1, p2)) := ⟨_, _, rfl⟩
            rw [hcc.out] at hne hwy
            have hne' : p1 ≠ 0 := hne
            have HWY := Lib.hid hwy
            clear hne hwy
            have d1 : (p1 != 0) = true := by simpa using hne'
            have e1 : (p1 == p1) = true := by simp
            have e2 : (p2 == p2) = true := by simp
            go_wp2_with fail
            refine (take_any _ _ _ _ _ _ (xss ++ [cl]) rs vars wz XX.out hv HVx.out 0 p1 p2 HWY.out false (by show _ = _; simp [hne'])).mono ?_
            rintro e w21 ⟨rfl, hb21⟩
            have a0 := keepBox hb21 k0
            have a1 := keepBox hb21 k1
            have la := (cell_lt a0).1
            have G21 := Lib.hid ((XX.out.keep hb21).keep (below_new w21 (.cells #[.int .i64 p1, .int .i64 p2] 28)))
            have B21 := Lib.hid (below_next BWW.out (below_next hb21 (below_new w21 (.cells #[.int .i64 p1, .int .i64 p2] 28))))
            clear hb21 k0 k1 lk
            go_wp2_with fail
            refine (check_ref _ _ _ (xss ++ [cl]) vars _ G21.out hv p1 p2 hcc).mono ?_
            rintro e w22 ⟨rfl, hb22⟩
            obtain ⟨KT, Bx, _⟩ := blk1 hb22
            have b0 := keepBox Bx a0
            have b1 := keepBox Bx a1
            have t0' := KT.cell 0
            have t1' := KT.cell 1
            simp at t0' t1'
            have G22 := Lib.hid (G21.out.keep hb22)
            have B22 := Lib.hid (below_next B21.out hb22)
            clear hb22 Bx KT a0 a1 la
            go_wp2_with fail
            have Q0 := Lib.hid (show (w22.cell? ⟨w21.heap.size, 0, none⟩ = some (.int .i64 p1) ∧ w22.cell? ⟨w21.heap.size, 1, none⟩ = some (.int .i64 p2) ∧ w22.cell? ⟨v49.heap.size, 0, none⟩ = some (.int .i64 vars) ∧ w22.cell? ⟨v49.heap.size, 1, none⟩ = some (.slice R71 (n + 1) cR71)) ∧ Below w22.heap.size w22 w22 from ⟨⟨t0', t1', b0, b1⟩, Below.refl _ _⟩)
            clear t0' t1' b0 b1
            go_region_held3 (fun w' => (w'.cell? ⟨w21.heap.size, 0, none⟩ = some (.int .i64 p1) ∧ w'.cell? ⟨w21.heap.size, 1, none⟩ = some (.int .i64 p2) ∧ w'.cell? ⟨v49.heap.size, 0, none⟩ = some (.int .i64 vars) ∧ w'.cell? ⟨v49.heap.size, 1, none⟩ = some (.slice R71 (n + 1) cR71)) ∧ Below w22.heap.size w22 w') (first | exact held4 (by assumption) (by assumption) | exact held4 (by assumption) (below_new _ _) | exact held4 (by assumption) (below_drewN _ _) | exact held4 Q0.out (below_drewN _ 1))
              ((go_at_call 23; (with_reducible refine (check_ref _ _ _ (xss ++ [cl]) vars _ ?_ hv p1 p2 hcc).mono ?_); (exact G22.out.keep (And.right (by assumption))); rintro e w23 ⟨rfl, hb23⟩))
            all_goals
              go_wp2_with fail
              go_ret
              exact ⟨rfl, below_next B22.out (And.right (by assumption))⟩
          · have HWY := Lib.hid hwy
            clear hwy
            go_wp2_with fail
            refine (take_any _ _ _ _ _ _ (xss ++ [cl]) rs vars wz XX.out hv HVx.out (-1) 0 0 HWY.out true (by show _ = _; rfl)).mono ?_
            rintro e w21 ⟨rfl, hb21⟩
            have a0 := keepBox hb21 k0
            have a1 := keepBox hb21 k1
            have la := (cell_lt a0).1
            have G21 := Lib.hid ((XX.out.keep hb21).keep (below_new w21 (.cells #[.int .i64 0, .int .i64 0] 28)))
            have B21 := Lib.hid (below_next BWW.out (below_next hb21 (below_new w21 (.cells #[.int .i64 0, .int .i64 0] 28))))
            clear hb21 k0 k1 lk
            go_wp2_with fail
            refine (check_ref _ _ _ (xss ++ [cl]) vars _ G21.out hv 0 0 hck2).mono ?_
            rintro e w22 ⟨rfl, hb22⟩
            obtain ⟨KT, Bx, _⟩ := blk1 hb22
            have t0' := KT.cell 0
            have t1' := KT.cell 1
            simp at t0' t1'
            have lt' := KT.lt
            have B22 := Lib.hid (below_next B21.out hb22)
            clear hb22 Bx KT a0 a1 la
            go_wp2_with fail
            go_ret
            exact ⟨rfl, B22.out⟩
      · obtain ⟨v74, hv74⟩ : ∃ v74 : World, v74 = v0.alloc (.cells #[.int .i64 0, .slice none 0 0] 24) := ⟨_, rfl⟩
        have bv74 : Below v0.heap.size v0 v74 := by rw [hv74]; exact below_new _ _
        have zv74 : v0.heap.size < v74.heap.size := by rw [hv74]; simp
        have KB74 : Hid (Blk v74 v0.heap.size 24 #[.int .i64 0, .slice none 0 0]) := by rw [hv74]; exact Blk.new _ _ _
        have HB74 := Lib.hid (below_next HB0.out bv74)
        have lw74 := HB74.out.size
        go_simp
        rw [← hv74]
        clear hv74
        have hS : v74.cell? ⟨w.heap.size, 0, none⟩ = some (.int .i64 vars) ∧ v74.cell? ⟨w.heap.size, 1, none⟩ = some (.slice A n c) := ⟨keepBox HB74.out cK_c_0, keepBox HB74.out cK_c_1⟩
        refine hK _ _ (fun _ => hS) ?_
        clear hK
        (try simp only [Act.put, List.setIfInBounds_toArray, List.set_cons_zero, List.set_cons_succ])
        refine twoT (i := 2) (j := 7) (by kernel_rfl) rfl (by rfl) rfl (by rfl) (fun K hK => ?_) (fun K hK => ?_)
        · obtain ⟨v75, hv75⟩ : ∃ v75 : World, v75 = v74.alloc (.cells #[] 41) := ⟨_, rfl⟩
          have bv75 : Below v74.heap.size v74 v75 := by rw [hv75]; exact below_new _ _
          have zv75 : v74.heap.size < v75.heap.size := by rw [hv75]; simp
          have KB75 := Lib.hid (KB74.out.keep bv75)
          have OR75 : Hid (Own 41 v75 wr.heap.size (some ⟨v74.heap.size, 0, none⟩) 0 0 []) := by rw [hv75]; exact own_empty _ _ _ rfl (by omega)
          have HB75 := Lib.hid (below_next HB74.out bv75)
          have lw75 := HB75.out.size
          go_simp
          rw [← hv75]
          clear hv75
          have hS : v75.cell? ⟨w.heap.size, 0, none⟩ = some (.int .i64 vars) ∧ v75.cell? ⟨w.heap.size, 1, none⟩ = some (.slice A n c) := ⟨keepBox HB75.out cK_c_0, keepBox HB75.out cK_c_1⟩
          refine hK _ _ (fun _ => hS) ?_
          clear hK
          (try simp only [Act.put, List.setIfInBounds_toArray, List.set_cons_zero, List.set_cons_succ])
          refine twoT (i := 5) (j := 7) (by kernel_rfl) rfl (by rfl) rfl (by rfl) (fun K hK => ?_) (fun K hK => ?_)
          · refine wp_append_sl _ (.tmp 51) (.tmp 53) 22 rfl wr.heap.size 41 i0 _ 24 Try.underlying22 hi0 hz0 hz1' hz2 rfl (some ⟨v74.heap.size, 0, none⟩) 0 0 _ rfl OR75.out A n c vs rfl (HSL.out.keep HB75.out) HONE.out (by simp only [maxLen]; omega) (by omega) (by omega) ?_
            intro R76 cR76 v76 hO76 hG76 hA76
            have HB76 : Hid (Below wr.heap.size wr v76) := HB75.out.grown hG76 HB75.out.size (fun k' hk' => own_base OR75.out hk')
            have lw76 := HB76.out.size
            have zg76 := hG76.size
            have OR76 : Hid (Own 41 v76 wr.heap.size R76 n cR76 vs) := by simpa [Hid] using hO76
            have KB76 : Hid (Blk v76 v0.heap.size 24 #[.int .i64 0, .slice none 0 0]) := KB75.out.grown hG76 (fun e => (OR75.out.ne_typed (Typed.of_blk KB75.out) row_ne_cnf).elim (fun h => by rw [h] at e; cases e) (fun h => h e.symm))
            clear hO76 hG76 hA76
            have hS : v76.cell? ⟨w.heap.size, 0, none⟩ = some (.int .i64 vars) ∧ v76.cell? ⟨w.heap.size, 1, none⟩ = some (.slice A n c) := ⟨keepBox HB76.out cK_c_0, keepBox HB76.out cK_c_1⟩
            refine hK _ _ (fun _ => hS) ?_
            clear hK
            (try simp only [Act.put, List.setIfInBounds_toArray, List.set_cons_zero, List.set_cons_succ])
            (try simp only [Nat.zero_add])
            refine oneT (i := 7) (by kernel_rfl) rfl (by rfl) (fun K hK => ?_)
            obtain ⟨v77, hv77⟩ : ∃ v77 : World, v77 = v76.alloc (.cells #[.slice C p f] 41) := ⟨_, rfl⟩
            have bv77 : Below v76.heap.size v76 v77 := by rw [hv77]; exact below_new _ _
            have zv77 : v76.heap.size < v77.heap.size := by rw [hv77]; simp
            have OR77 := Lib.hid (OR76.out.keep bv77)
            have KB77 := Lib.hid (KB76.out.keep bv77)
            have SB77 : Hid (Sl v77 (some ⟨v76.heap.size, 0, none⟩) 1 1 [.slice C p f]) := by rw [hv77]; exact sl_one v76 41 (.slice C p f) rfl
            have NE77 : blockOf R76 ≠ some v76.heap.size := OR76.out.ltb (Nat.le_refl _)
            have HB77 := Lib.hid (below_next HB76.out bv77)
            have lw77 := HB77.out.size
            go_simp
            rw [← hv77]
            clear hv77
            have hS : v77.cell? ⟨w.heap.size, 0, none⟩ = some (.int .i64 vars) ∧ v77.cell? ⟨w.heap.size, 1, none⟩ = some (.slice A n c) := ⟨keepBox HB77.out cK_c_0, keepBox HB77.out cK_c_1⟩
            refine hK _ _ (fun _ => hS) ?_
            clear hK
            (try simp only [Act.put, List.setIfInBounds_toArray, List.set_cons_zero, List.set_cons_succ])
            refine oneT (i := 8) (by kernel_rfl) rfl (by rfl) (fun K hK => ?_)
            refine wp_append_sl _ (.tmp 54) (.tmp 56) 22 rfl wr.heap.size 41 i0 _ 24 Try.underlying22 hi0 hz0 hz1' hz2 rfl R76 n cR76 _ rfl OR77.out (some ⟨v76.heap.size, 0, none⟩) 1 1 [.slice C p f] rfl SB77.out (by simp [Value.oneCell']) (by simp only [maxLen]; omega) (by omega) (by omega) ?_
            intro R78 cR78 v78 hO78 hG78 hA78
            have HB78 : Hid (Below wr.heap.size wr v78) := HB77.out.grown hG78 HB77.out.size (fun k' hk' => own_base OR77.out hk')
            have lw78 := HB78.out.size
            have zg78 := hG78.size
            have OR78 : Hid (Own 41 v78 wr.heap.size R78 (n + 1) cR78 (vs ++ [.slice C p f])) := by simpa [Hid] using hO78
            have KB78 : Hid (Blk v78 v0.heap.size 24 #[.int .i64 0, .slice none 0 0]) := KB77.out.grown hG78 (fun e => (OR77.out.ne_typed (Typed.of_blk KB77.out) row_ne_cnf).elim (fun h => by rw [h] at e; cases e) (fun h => h e.symm))
            clear hO78 hG78 hA78
            have hS : v78.cell? ⟨w.heap.size, 0, none⟩ = some (.int .i64 vars) ∧ v78.cell? ⟨w.heap.size, 1, none⟩ = some (.slice A n c) := ⟨keepBox HB78.out cK_c_0, keepBox HB78.out cK_c_1⟩
            refine hK _ _ (fun _ => hS) ?_
            clear hK
            (try simp only [Act.put, List.setIfInBounds_toArray, List.set_cons_zero, List.set_cons_succ])
            (try simp only [Nat.zero_add])
            refine oneT (i := 9) (by kernel_rfl) rfl (by rfl) (fun K hK => ?_)
            go_simp
            have hS : v78.cell? ⟨w.heap.size, 0, none⟩ = some (.int .i64 vars) ∧ v78.cell? ⟨w.heap.size, 1, none⟩ = some (.slice A n c) := ⟨keepBox HB78.out cK_c_0, keepBox HB78.out cK_c_1⟩
            refine hK _ _ (fun _ => hS) ?_
            clear hK
            (try simp only [Act.put, List.setIfInBounds_toArray, List.set_cons_zero, List.set_cons_succ])
            refine oneT (i := 11) (by kernel_rfl) rfl (by rfl) (fun K hK => ?_)
            have e0 := KB78.out.cell 0
            have e1 := KB78.out.cell 1
            have f0 := KB78.out.frozen 0
            have f1 := KB78.out.frozen 1
            simp at e0 e1
            have le := KB78.out.lt
            obtain ⟨v80, hv80⟩ : ∃ v80 : World, v80 = (v78.setCell ⟨v0.heap.size, 0, none⟩ (.int .i64 vars)).setCell ⟨v0.heap.size, 1, none⟩ (.slice R78 (n + 1) cR78) := ⟨_, rfl⟩
            have KB80 : Hid (Blk v80 v0.heap.size 24 #[.int .i64 vars, .slice R78 (n + 1) cR78]) := by rw [hv80]; have := (KB78.out.set_ 0 (.int .i64 vars)).set_ 1 (.slice R78 (n + 1) cR78); simpa [Hid] using this
            have HB80 : Hid (Below wr.heap.size wr v80) := by rw [hv80]; exact below_put2 HB78.out (by omega) _ _
            have OR80 : Hid (Own 41 v80 wr.heap.size R78 (n + 1) cR78 (vs ++ [.slice C p f])) := by rw [hv80]; exact own_box OR78.out KB78.out row_ne_cnf _ _
            go_simp
            rw [← hv80]
            clear hv80 e0 e1 f0 f1 le
            have hS : v80.cell? ⟨w.heap.size, 0, none⟩ = some (.int .i64 vars) ∧ v80.cell? ⟨w.heap.size, 1, none⟩ = some (.slice A n c) := ⟨keepBox HB80.out cK_c_0, keepBox HB80.out cK_c_1⟩
            refine hK _ _ (fun _ => hS) ?_
            clear hK
            (try simp only [Act.put, List.setIfInBounds_toArray, List.set_cons_zero, List.set_cons_succ])
            refine doneT (by kernel_rfl) ?_ _
            have XX := Lib.hid (fin_grid G.out HA.out HB80.out HGV.out OR80.out)
            have k0 := KB80.out.cell 0
            have k1 := KB80.out.cell 1
            simp at k0 k1
            have lk := KB80.out.lt
            have HVx := Lib.hid (HV.out.keep HB80.out)
            have BW := HB80
            have hgb := XX.out.bd
            have BWW := Lib.hid (below_next HB.out BW.out)
            clear K_c K_f G HA
            obtain ⟨wz, hwz⟩ : ∃ wz : World, wz = v80 := ⟨_, rfl⟩
            subst hwz
            rcases HM.out with ⟨hne, hwy⟩ | ⟨hck2, hwy⟩
            · obtain ⟨p1, p2, hcc⟩ : ∃ p1 p2, Hid (checkC vars (xss ++ [cl]) = (p1, p2)) := ⟨_, _, rfl⟩
              rw [hcc.out] at hne hwy
              have hne' : p1 ≠ 0 := hne
              have HWY := Lib.hid hwy
              clear hne hwy
              have d1 : (p1 != 0) = true := by simpa using hne'
              have e1 : (p1 == p1) = true := by simp
              have e2 : (p2 == p2) = true := by simp
              go_wp2_with fail
              refine (take_any _ _ _ _ _ _ (xss ++ [cl]) rs vars wz XX.out hv HVx.out 0 p1 p2 HWY.out false (by show _ = _; simp [hne'])).mono ?_
              rintro e w21 ⟨rfl, hb21⟩
              have a0 := keepBox hb21 k0
              have a1 := keepBox hb21 k1
              have la := (cell_lt a0).1
              have G21 := Lib.hid ((XX.out.keep hb21).keep (below_new w21 (.cells #[.int .i64 p1, .int .i64 p2] 28)))
              have B21 := Lib.hid (below_next BWW.out (below_next hb21 (below_new w21 (.cells #[.int .i64 p1, .int .i64 p2] 28))))
              clear hb21 k0 k1 lk
              go_wp2_with fail
              refine (check_ref _ _ _ (xss ++ [cl]) vars _ G21.out hv p1 p2 hcc).mono ?_
              rintro e w22 ⟨rfl, hb22⟩
              obtain ⟨KT, Bx, _⟩ := blk1 hb22
              have b0 := keepBox Bx a0
              have b1 := keepBox Bx a1
              have t0' := KT.cell 0
              have t1' := KT.cell 1
              simp at t0' t1'
              have G22 := Lib.hid (G21.out.keep hb22)
              have B22 := Lib.hid (below_next B21.out hb22)
              clear hb22 Bx KT a0 a1 la
              go_wp2_with fail
              have Q0 := Lib.hid (show (w22.cell? ⟨w21.heap.size, 0, none⟩ = some (.int .i64 p1) ∧ w22.cell? ⟨w21.heap.size, 1, none⟩ = some (.int .i64 p2) ∧ w22.cell? ⟨v0.heap.size, 0, none⟩ = some (.int .i64 vars) ∧ w22.cell? ⟨v0.heap.size, 1, none⟩ = some (.slice R78 (n + 1) cR78)) ∧ Below w22.heap.size w22 w22 from ⟨⟨t0', t1', b0, b1⟩, Below.refl _ _⟩)
              clear t0' t1' b0 b1
              go_region_held3 (fun w' => (w'.cell? ⟨w21.heap.size, 0, none⟩ = some (.int .i64 p1) ∧ w'.cell? ⟨w21.heap.size, 1, none⟩ = some (.int .i64 p2) ∧ w'.cell? ⟨v0.heap.size, 0, none⟩ = some (.int .i64 vars) ∧ w'.cell? ⟨v0.heap.size, 1, none⟩ = some (.slice R78 (n + 1) cR78)) ∧ Below w22.heap.size w22 w') (first | exact held4 (by assumption) (by assumption) | exact held4 (by assumption) (below_new _ _) | exact held4 (by assumption) (below_drewN _ _) | exact held4 Q0.out (below_drewN _ 1))
                ((go_at_call 23; (with_reducible refine (check_ref _ _ _ (xss ++ [cl]) vars _ ?_ hv p1 p2 hcc).mono ?_); (exact G22.out.keep (And.right (by assumption))); rintro e w23 ⟨rfl, hb23⟩))
              all_goals
                go_wp2_with fail
                go_ret
                exact ⟨rfl, below_next B22.out (And.right (by assumption))⟩
            · have HWY := Lib.hid hwy
              clear hwy
              go_wp2_with fail
              refine (take_any _ _ _ _ _ _ (xss ++ [cl]) rs vars wz XX.out hv HVx.out (-1) 0 0 HWY.out true (by show _ = _; rfl)).mono ?_
              rintro e w21 ⟨rfl, hb21⟩
              have a0 := keepBox hb21 k0
              have a1 := keepBox hb21 k1
              have la := (cell_lt a0).1
              have G21 := Lib.hid ((XX.out.keep hb21).keep (below_new w21 (.cells #[.int .i64 0, .int .i64 0] 28)))
              have B21 := Lib.hid (below_next BWW.out (below_next hb21 (below_new w21 (.cells #[.int .i64 0, .int .i64 0] 28))))
              clear hb21 k0 k1 lk
              go_wp2_with fail
              refine (check_ref _ _ _ (xss ++ [cl]) vars _ G21.out hv 0 0 hck2).mono ?_
              rintro e w22 ⟨rfl, hb22⟩
              obtain ⟨KT, Bx, _⟩ := blk1 hb22
              have t0' := KT.cell 0
              have t1' := KT.cell 1
              simp at t0' t1'
              have lt' := KT.lt
              have B22 := Lib.hid (below_next B21.out hb22)
              clear hb22 Bx KT a0 a1 la
              go_wp2_with fail
              go_ret
              exact ⟨rfl, B22.out⟩
          · obtain ⟨v81, hv81⟩ : ∃ v81 : World, v81 = v75.alloc (.cells #[.slice C p f] 41) := ⟨_, rfl⟩
            have bv81 : Below v75.heap.size v75 v81 := by rw [hv81]; exact below_new _ _
            have zv81 : v75.heap.size < v81.heap.size := by rw [hv81]; simp
            have OR81 := Lib.hid (OR75.out.keep bv81)
            have KB81 := Lib.hid (KB75.out.keep bv81)
            have SB81 : Hid (Sl v81 (some ⟨v75.heap.size, 0, none⟩) 1 1 [.slice C p f]) := by rw [hv81]; exact sl_one v75 41 (.slice C p f) rfl
            have NE81 : blockOf (some ⟨v74.heap.size, 0, none⟩) ≠ some v75.heap.size := OR75.out.ltb (Nat.le_refl _)
            have HB81 := Lib.hid (below_next HB75.out bv81)
            have lw81 := HB81.out.size
            go_simp
            rw [← hv81]
            clear hv81
            have hS : v81.cell? ⟨w.heap.size, 0, none⟩ = some (.int .i64 vars) ∧ v81.cell? ⟨w.heap.size, 1, none⟩ = some (.slice A n c) := ⟨keepBox HB81.out cK_c_0, keepBox HB81.out cK_c_1⟩
            refine hK _ _ (fun _ => hS) ?_
            clear hK
            (try simp only [Act.put, List.setIfInBounds_toArray, List.set_cons_zero, List.set_cons_succ])
            refine oneT (i := 5) (by kernel_rfl) rfl (by rfl) (fun K hK => ?_)
            refine wp_append_sl _ (.tmp 51) (.tmp 53) 22 rfl wr.heap.size 41 i0 _ 24 Try.underlying22 hi0 hz0 hz1' hz2 rfl (some ⟨v74.heap.size, 0, none⟩) 0 0 _ rfl OR81.out A n c vs rfl (HSL.out.keep HB81.out) HONE.out (by simp only [maxLen]; omega) (by omega) (by omega) ?_
            intro R82 cR82 v82 hO82 hG82 hA82
            have HB82 : Hid (Below wr.heap.size wr v82) := HB81.out.grown hG82 HB81.out.size (fun k' hk' => own_base OR81.out hk')
            have lw82 := HB82.out.size
            have zg82 := hG82.size
            have OR82 : Hid (Own 41 v82 wr.heap.size R82 n cR82 vs) := by simpa [Hid] using hO82
            have SB82 : Hid (Sl v82 (some ⟨v75.heap.size, 0, none⟩) 1 1 [.slice C p f]) := SB81.out.kept' hG82 (fun e => NE81 e)
            have NE82 : blockOf R82 ≠ some v75.heap.size := hA82.elim (fun e => by rw [e]; exact NE81) (fun e => by rw [e]; simp; omega)
            have KB82 : Hid (Blk v82 v0.heap.size 24 #[.int .i64 0, .slice none 0 0]) := KB81.out.grown hG82 (fun e => (OR81.out.ne_typed (Typed.of_blk KB81.out) row_ne_cnf).elim (fun h => by rw [h] at e; cases e) (fun h => h e.symm))
            clear hO82 hG82 hA82
            have hS : v82.cell? ⟨w.heap.size, 0, none⟩ = some (.int .i64 vars) ∧ v82.cell? ⟨w.heap.size, 1, none⟩ = some (.slice A n c) := ⟨keepBox HB82.out cK_c_0, keepBox HB82.out cK_c_1⟩
            refine hK _ _ (fun _ => hS) ?_
            clear hK
            (try simp only [Act.put, List.setIfInBounds_toArray, List.set_cons_zero, List.set_cons_succ])
            (try simp only [Nat.zero_add])
            refine oneT (i := 8) (by kernel_rfl) rfl (by rfl) (fun K hK => ?_)
            refine wp_append_sl _ (.tmp 54) (.tmp 56) 22 rfl wr.heap.size 41 i0 _ 24 Try.underlying22 hi0 hz0 hz1' hz2 rfl R82 n cR82 _ rfl OR82.out (some ⟨v75.heap.size, 0, none⟩) 1 1 [.slice C p f] rfl SB82.out (by simp [Value.oneCell']) (by simp only [maxLen]; omega) (by omega) (by omega) ?_
            intro R83 cR83 v83 hO83 hG83 hA83
            have HB83 : Hid (Below wr.heap.size wr v83) := HB82.out.grown hG83 HB82.out.size (fun k' hk' => own_base OR82.out hk')
            have lw83 := HB83.out.size
            have zg83 := hG83.size
            have OR83 : Hid (Own 41 v83 wr.heap.size R83 (n + 1) cR83 (vs ++ [.slice C p f])) := by simpa [Hid] using hO83
            have KB83 : Hid (Blk v83 v0.heap.size 24 #[.int .i64 0, .slice none 0 0]) := KB82.out.grown hG83 (fun e => (OR82.out.ne_typed (Typed.of_blk KB82.out) row_ne_cnf).elim (fun h => by rw [h] at e; cases e) (fun h => h e.symm))
            clear hO83 hG83 hA83
            have hS : v83.cell? ⟨w.heap.size, 0, none⟩ = some (.int .i64 vars) ∧ v83.cell? ⟨w.heap.size, 1, none⟩ = some (.slice A n c) := ⟨keepBox HB83.out cK_c_0, keepBox HB83.out cK_c_1⟩
            refine hK _ _ (fun _ => hS) ?_
            clear hK
            (try simp only [Act.put, List.setIfInBounds_toArray, List.set_cons_zero, List.set_cons_succ])
            (try simp only [Nat.zero_add])
            refine oneT (i := 9) (by kernel_rfl) rfl (by rfl) (fun K hK => ?_)
            go_simp
            have hS : v83.cell? ⟨w.heap.size, 0, none⟩ = some (.int .i64 vars) ∧ v83.cell? ⟨w.heap.size, 1, none⟩ = some (.slice A n c) := ⟨keepBox HB83.out cK_c_0, keepBox HB83.out cK_c_1⟩
            refine hK _ _ (fun _ => hS) ?_
            clear hK
            (try simp only [Act.put, List.setIfInBounds_toArray, List.set_cons_zero, List.set_cons_succ])
            refine oneT (i := 11) (by kernel_rfl) rfl (by rfl) (fun K hK => ?_)
            have e0 := KB83.out.cell 0
            have e1 := KB83.out.cell 1
            have f0 := KB83.out.frozen 0
            have f1 := KB83.out.frozen 1
            simp at e0 e1
            have le := KB83.out.lt
            obtain ⟨v85, hv85⟩ : ∃ v85 : World, v85 = (v83.setCell ⟨v0.heap.size, 0, none⟩ (.int .i64 vars)).setCell ⟨v0.heap.size, 1, none⟩ (.slice R83 (n + 1) cR83) := ⟨_, rfl⟩
            have KB85 : Hid (Blk v85 v0.heap.size 24 #[.int .i64 vars, .slice R83 (n + 1) cR83]) := by rw [hv85]; have := (KB83.out.set_ 0 (.int .i64 vars)).set_ 1 (.slice R83 (n + 1) cR83); simpa [Hid] using this
            have HB85 : Hid (Below wr.heap.size wr v85) := by rw [hv85]; exact below_put2 HB83.out (by omega) _ _
            have OR85 : Hid (Own 41 v85 wr.heap.size R83 (n + 1) cR83 (vs ++ [.slice C p f])) := by rw [hv85]; exact own_box OR83.out KB83.out row_ne_cnf _ _
            go_simp
            rw [← hv85]
            clear hv85 e0 e1 f0 f1 le
            have hS : v85.cell? ⟨w.heap.size, 0, none⟩ = some (.int .i64 vars) ∧ v85.cell? ⟨w.heap.size, 1, none⟩ = some (.slice A n c) := ⟨keepBox HB85.out cK_c_0, keepBox HB85.out cK_c_1⟩
            refine hK _ _ (fun _ => hS) ?_
            clear hK
            (try simp only [Act.put, List.setIfInBounds_toArray, List.set_cons_zero, List.set_cons_succ])
            refine doneT (by kernel_rfl) ?_ _
            have XX := Lib.hid (fin_grid G.out HA.out HB85.out HGV.out OR85.out)
            have k0 := KB85.out.cell 0
            have k1 := KB85.out.cell 1
            simp at k0 k1
            have lk := KB85.out.lt
            have HVx := Lib.hid (HV.out.keep HB85.out)
            have BW := HB85
            have hgb := XX.out.bd
            have BWW := Lib.hid (below_next HB.out BW.out)
            clear K_c K_f G HA
            obtain ⟨wz, hwz⟩ : ∃ wz : World, wz = v85 := ⟨_, rfl⟩
            subst hwz
            rcases HM.out with ⟨hne, hwy⟩ | ⟨hck2, hwy⟩
            · obtain ⟨p1, p2, hcc⟩ : ∃ p1 p2, Hid (checkC vars (xss ++ [cl]) = (p1, p2)) := ⟨_, _, rfl⟩
              rw [hcc.out] at hne hwy
              have hne' : p1 ≠ 0 := hne
              have HWY := Lib.hid hwy
              clear hne hwy
              have d1 : (p1 != 0) = true := by simpa using hne'
              have e1 : (p1 == p1) = true := by simp
              have e2 : (p2 == p2) = true := by simp
              go_wp2_with fail
              refine (take_any _ _ _ _ _ _ (xss ++ [cl]) rs vars wz XX.out hv HVx.out 0 p1 p2 HWY.out false (by show _ = _; simp [hne'])).mono ?_
              rintro e w21 ⟨rfl, hb21⟩
              have a0 := keepBox hb21 k0
              have a1 := keepBox hb21 k1
              have la := (cell_lt a0).1
              have G21 := Lib.hid ((XX.out.keep hb21).keep (below_new w21 (.cells #[.int .i64 p1, .int .i64 p2] 28)))
              have B21 := Lib.hid (below_next BWW.out (below_next hb21 (below_new w21 (.cells #[.int .i64 p1, .int .i64 p2] 28))))
              clear hb21 k0 k1 lk
              go_wp2_with fail
              refine (check_ref _ _ _ (xss ++ [cl]) vars _ G21.out hv p1 p2 hcc).mono ?_
              rintro e w22 ⟨rfl, hb22⟩
              obtain ⟨KT, Bx, _⟩ := blk1 hb22
              have b0 := keepBox Bx a0
              have b1 := keepBox Bx a1
              have t0' := KT.cell 0
              have t1' := KT.cell 1
              simp at t0' t1'
              have G22 := Lib.hid (G21.out.keep hb22)
              have B22 := Lib.hid (below_next B21.out hb22)
              clear hb22 Bx KT a0 a1 la
              go_wp2_with fail
              have Q0 := Lib.hid (show (w22.cell? ⟨w21.heap.size, 0, none⟩ = some (.int .i64 p1) ∧ w22.cell? ⟨w21.heap.size, 1, none⟩ = some (.int .i64 p2) ∧ w22.cell? ⟨v0.heap.size, 0, none⟩ = some (.int .i64 vars) ∧ w22.cell? ⟨v0.heap.size, 1, none⟩ = some (.slice R83 (n + 1) cR83)) ∧ Below w22.heap.size w22 w22 from ⟨⟨t0', t1', b0, b1⟩, Below.refl _ _⟩)
              clear t0' t1' b0 b1
              go_region_held3 (fun w' => (w'.cell? ⟨w21.heap.size, 0, none⟩ = some (.int .i64 p1) ∧ w'.cell? ⟨w21.heap.size, 1, none⟩ = some (.int .i64 p2) ∧ w'.cell? ⟨v0.heap.size, 0, none⟩ = some (.int .i64 vars) ∧ w'.cell? ⟨v0.heap.size, 1, none⟩ = some (.slice R83 (n + 1) cR83)) ∧ Below w22.heap.size w22 w') (first | exact held4 (by assumption) (by assumption) | exact held4 (by assumption) (below_new _ _) | exact held4 (by assumption) (below_drewN _ _) | exact held4 Q0.out (below_drewN _ 1))
                ((go_at_call 23; (with_reducible refine (check_ref _ _ _ (xss ++ [cl]) vars _ ?_ hv p1 p2 hcc).mono ?_); (exact G22.out.keep (And.right (by assumption))); rintro e w23 ⟨rfl, hb23⟩))
              all_goals
                go_wp2_with fail
                go_ret
                exact ⟨rfl, below_next B22.out (And.right (by assumption))⟩
            · have HWY := Lib.hid hwy
              clear hwy
              go_wp2_with fail
              refine (take_any _ _ _ _ _ _ (xss ++ [cl]) rs vars wz XX.out hv HVx.out (-1) 0 0 HWY.out true (by show _ = _; rfl)).mono ?_
              rintro e w21 ⟨rfl, hb21⟩
              have a0 := keepBox hb21 k0
              have a1 := keepBox hb21 k1
              have la := (cell_lt a0).1
              have G21 := Lib.hid ((XX.out.keep hb21).keep (below_new w21 (.cells #[.int .i64 0, .int .i64 0] 28)))
              have B21 := Lib.hid (below_next BWW.out (below_next hb21 (below_new w21 (.cells #[.int .i64 0, .int .i64 0] 28))))
              clear hb21 k0 k1 lk
              go_wp2_with fail
              refine (check_ref _ _ _ (xss ++ [cl]) vars _ G21.out hv 0 0 hck2).mono ?_
              rintro e w22 ⟨rfl, hb22⟩
              obtain ⟨KT, Bx, _⟩ := blk1 hb22
              have t0' := KT.cell 0
              have t1' := KT.cell 1
              simp at t0' t1'
              have lt' := KT.lt
              have B22 := Lib.hid (below_next B21.out hb22)
              clear hb22 Bx KT a0 a1 la
              go_wp2_with fail
              go_ret
              exact ⟨rfl, B22.out⟩
        · obtain ⟨v86, hv86⟩ : ∃ v86 : World, v86 = v74.alloc (.cells #[.slice C p f] 41) := ⟨_, rfl⟩
          have bv86 : Below v74.heap.size v74 v86 := by rw [hv86]; exact below_new _ _
          have zv86 : v74.heap.size < v86.heap.size := by rw [hv86]; simp
          have KB86 := Lib.hid (KB74.out.keep bv86)
          have SB86 : Hid (Sl v86 (some ⟨v74.heap.size, 0, none⟩) 1 1 [.slice C p f]) := by rw [hv86]; exact sl_one v74 41 (.slice C p f) rfl
          have HB86 := Lib.hid (below_next HB74.out bv86)
          have lw86 := HB86.out.size
          go_simp
          rw [← hv86]
          clear hv86
          have hS : v86.cell? ⟨w.heap.size, 0, none⟩ = some (.int .i64 vars) ∧ v86.cell? ⟨w.heap.size, 1, none⟩ = some (.slice A n c) := ⟨keepBox HB86.out cK_c_0, keepBox HB86.out cK_c_1⟩
          refine hK _ _ (fun _ => hS) ?_
          clear hK
          (try simp only [Act.put, List.setIfInBounds_toArray, List.set_cons_zero, List.set_cons_succ])
          refine oneT (i := 2) (by kernel_rfl) rfl (by rfl) (fun K hK => ?_)
          obtain ⟨v87, hv87⟩ : ∃ v87 : World, v87 = v86.alloc (.cells #[] 41) := ⟨_, rfl⟩
          have bv87 : Below v86.heap.size v86 v87 := by rw [hv87]; exact below_new _ _
          have zv87 : v86.heap.size < v87.heap.size := by rw [hv87]; simp
          have SB87 := Lib.hid (SB86.out.keep bv87)
          have KB87 := Lib.hid (KB86.out.keep bv87)
          have OR87 : Hid (Own 41 v87 wr.heap.size (some ⟨v86.heap.size, 0, none⟩) 0 0 []) := by rw [hv87]; exact own_empty _ _ _ rfl (by omega)
          have NE87 : blockOf (some (⟨v86.heap.size, 0, none⟩ : Addr)) ≠ some v74.heap.size := by simp [blockOf]; omega
          have HB87 := Lib.hid (below_next HB86.out bv87)
          have lw87 := HB87.out.size
          go_simp
          rw [← hv87]
          clear hv87
          have hS : v87.cell? ⟨w.heap.size, 0, none⟩ = some (.int .i64 vars) ∧ v87.cell? ⟨w.heap.size, 1, none⟩ = some (.slice A n c) := ⟨keepBox HB87.out cK_c_0, keepBox HB87.out cK_c_1⟩
          refine hK _ _ (fun _ => hS) ?_
          clear hK
          (try simp only [Act.put, List.setIfInBounds_toArray, List.set_cons_zero, List.set_cons_succ])
          refine oneT (i := 5) (by kernel_rfl) rfl (by rfl) (fun K hK => ?_)
          refine wp_append_sl _ (.tmp 51) (.tmp 53) 22 rfl wr.heap.size 41 i0 _ 24 Try.underlying22 hi0 hz0 hz1' hz2 rfl (some ⟨v86.heap.size, 0, none⟩) 0 0 _ rfl OR87.out A n c vs rfl (HSL.out.keep HB87.out) HONE.out (by simp only [maxLen]; omega) (by omega) (by omega) ?_
          intro R88 cR88 v88 hO88 hG88 hA88
          have HB88 : Hid (Below wr.heap.size wr v88) := HB87.out.grown hG88 HB87.out.size (fun k' hk' => own_base OR87.out hk')
          have lw88 := HB88.out.size
          have zg88 := hG88.size
          have OR88 : Hid (Own 41 v88 wr.heap.size R88 n cR88 vs) := by simpa [Hid] using hO88
          have SB88 : Hid (Sl v88 (some ⟨v74.heap.size, 0, none⟩) 1 1 [.slice C p f]) := SB87.out.kept' hG88 (fun e => NE87 e)
          have NE88 : blockOf R88 ≠ some v74.heap.size := hA88.elim (fun e => by rw [e]; exact NE87) (fun e => by rw [e]; simp; omega)
          have KB88 : Hid (Blk v88 v0.heap.size 24 #[.int .i64 0, .slice none 0 0]) := KB87.out.grown hG88 (fun e => (OR87.out.ne_typed (Typed.of_blk KB87.out) row_ne_cnf).elim (fun h => by rw [h] at e; cases e) (fun h => h e.symm))
          clear hO88 hG88 hA88
          have hS : v88.cell? ⟨w.heap.size, 0, none⟩ = some (.int .i64 vars) ∧ v88.cell? ⟨w.heap.size, 1, none⟩ = some (.slice A n c) := ⟨keepBox HB88.out cK_c_0, keepBox HB88.out cK_c_1⟩
          refine hK _ _ (fun _ => hS) ?_
          clear hK
          (try simp only [Act.put, List.setIfInBounds_toArray, List.set_cons_zero, List.set_cons_succ])
          (try simp only [Nat.zero_add])
          refine oneT (i := 8) (by kernel_rfl) rfl (by rfl) (fun K hK => ?_)
          refine wp_append_sl _ (.tmp 54) (.tmp 56) 22 rfl wr.heap.size 41 i0 _ 24 Try.underlying22 hi0 hz0 hz1' hz2 rfl R88 n cR88 _ rfl OR88.out (some ⟨v74.heap.size, 0, none⟩) 1 1 [.slice C p f] rfl SB88.out (by simp [Value.oneCell']) (by simp only [maxLen]; omega) (by omega) (by omega) ?_
          intro R89 cR89 v89 hO89 hG89 hA89
          have HB89 : Hid (Below wr.heap.size wr v89) := HB88.out.grown hG89 HB88.out.size (fun k' hk' => own_base OR88.out hk')
          have lw89 := HB89.out.size
          have zg89 := hG89.size
          have OR89 : Hid (Own 41 v89 wr.heap.size R89 (n + 1) cR89 (vs ++ [.slice C p f])) := by simpa [Hid] using hO89
          have KB89 : Hid (Blk v89 v0.heap.size 24 #[.int .i64 0, .slice none 0 0]) := KB88.out.grown hG89 (fun e => (OR88.out.ne_typed (Typed.of_blk KB88.out) row_ne_cnf).elim (fun h => by rw [h] at e; cases e) (fun h => h e.symm))
          clear hO89 hG89 hA89
          have hS : v89.cell? ⟨w.heap.size, 0, none⟩ = some (.int .i64 vars) ∧ v89.cell? ⟨w.heap.size, 1, none⟩ = some (.slice A n c) := ⟨keepBox HB89.out cK_c_0, keepBox HB89.out cK_c_1⟩
          refine hK _ _ (fun _ => hS) ?_
          clear hK
          (try simp only [Act.put, List.setIfInBounds_toArray, List.set_cons_zero, List.set_cons_succ])
          (try simp only [Nat.zero_add])
          refine oneT (i := 9) (by kernel_rfl) rfl (by rfl) (fun K hK => ?_)
          go_simp
          have hS : v89.cell? ⟨w.heap.size, 0, none⟩ = some (.int .i64 vars) ∧ v89.cell? ⟨w.heap.size, 1, none⟩ = some (.slice A n c) := ⟨keepBox HB89.out cK_c_0, keepBox HB89.out cK_c_1⟩
          refine hK _ _ (fun _ => hS) ?_
          clear hK
          (try simp only [Act.put, List.setIfInBounds_toArray, List.set_cons_zero, List.set_cons_succ])
          refine oneT (i := 11) (by kernel_rfl) rfl (by rfl) (fun K hK => ?_)
          have e0 := KB89.out.cell 0
          have e1 := KB89.out.cell 1
          have f0 := KB89.out.frozen 0
          have f1 := KB89.out.frozen 1
          simp at e0 e1
          have le := KB89.out.lt
          obtain ⟨v91, hv91⟩ : ∃ v91 : World, v91 = (v89.setCell ⟨v0.heap.size, 0, none⟩ (.int .i64 vars)).setCell ⟨v0.heap.size, 1, none⟩ (.slice R89 (n + 1) cR89) := ⟨_, rfl⟩
          have KB91 : Hid (Blk v91 v0.heap.size 24 #[.int .i64 vars, .slice R89 (n + 1) cR89]) := by rw [hv91]; have := (KB89.out.set_ 0 (.int .i64 vars)).set_ 1 (.slice R89 (n + 1) cR89); simpa [Hid] using this
          have HB91 : Hid (Below wr.heap.size wr v91) := by rw [hv91]; exact below_put2 HB89.out (by omega) _ _
          have OR91 : Hid (Own 41 v91 wr.heap.size R89 (n + 1) cR89 (vs ++ [.slice C p f])) := by rw [hv91]; exact own_box OR89.out KB89.out row_ne_cnf _ _
          go_simp
          rw [← hv91]
          clear hv91 e0 e1 f0 f1 le
          have hS : v91.cell? ⟨w.heap.size, 0, none⟩ = some (.int .i64 vars) ∧ v91.cell? ⟨w.heap.size, 1, none⟩ = some (.slice A n c) := ⟨keepBox HB91.out cK_c_0, keepBox HB91.out cK_c_1⟩
          refine hK _ _ (fun _ => hS) ?_
          clear hK
          (try simp only [Act.put, List.setIfInBounds_toArray, List.set_cons_zero, List.set_cons_succ])
          refine doneT (by kernel_rfl) ?_ _
          have XX := Lib.hid (fin_grid G.out HA.out HB91.out HGV.out OR91.out)
          have k0 := KB91.out.cell 0
          have k1 := KB91.out.cell 1
          simp at k0 k1
          have lk := KB91.out.lt
          have HVx := Lib.hid (HV.out.keep HB91.out)
          have BW := HB91
          have hgb := XX.out.bd
          have BWW := Lib.hid (below_next HB.out BW.out)
          clear K_c K_f G HA
          obtain ⟨wz, hwz⟩ : ∃ wz : World, wz = v91 := ⟨_, rfl⟩
          subst hwz
          rcases HM.out with ⟨hne, hwy⟩ | ⟨hck2, hwy⟩
          · obtain ⟨p1, p2, hcc⟩ : ∃ p1 p2, Hid (checkC vars (xss ++ [cl]) = (p1, p2)) := ⟨_, _, rfl⟩
            rw [hcc.out] at hne hwy
            have hne' : p1 ≠ 0 := hne
            have HWY := Lib.hid hwy
            clear hne hwy
            have d1 : (p1 != 0) = true := by simpa using hne'
            have e1 : (p1 == p1) = true := by simp
            have e2 : (p2 == p2) = true := by simp
            go_wp2_with fail
            refine (take_any _ _ _ _ _ _ (xss ++ [cl]) rs vars wz XX.out hv HVx.out 0 p1 p2 HWY.out false (by show _ = _; simp [hne'])).mono ?_
            rintro e w21 ⟨rfl, hb21⟩
            have a0 := keepBox hb21 k0
            have a1 := keepBox hb21 k1
            have la := (cell_lt a0).1
            have G21 := Lib.hid ((XX.out.keep hb21).keep (below_new w21 (.cells #[.int .i64 p1, .int .i64 p2] 28)))
            have B21 := Lib.hid (below_next BWW.out (below_next hb21 (below_new w21 (.cells #[.int .i64 p1, .int .i64 p2] 28))))
            clear hb21 k0 k1 lk
            go_wp2_with fail
            refine (check_ref _ _ _ (xss ++ [cl]) vars _ G21.out hv p1 p2 hcc).mono ?_
            rintro e w22 ⟨rfl, hb22⟩
            obtain ⟨KT, Bx, _⟩ := blk1 hb22
            have b0 := keepBox Bx a0
            have b1 := keepBox Bx a1
            have t0' := KT.cell 0
            have t1' := KT.cell 1
            simp at t0' t1'
            have G22 := Lib.hid (G21.out.keep hb22)
            have B22 := Lib.hid (below_next B21.out hb22)
            clear hb22 Bx KT a0 a1 la
            go_wp2_with fail
            have Q0 := Lib.hid (show (w22.cell? ⟨w21.heap.size, 0, none⟩ = some (.int .i64 p1) ∧ w22.cell? ⟨w21.heap.size, 1, none⟩ = some (.int .i64 p2) ∧ w22.cell? ⟨v0.heap.size, 0, none⟩ = some (.int .i64 vars) ∧ w22.cell? ⟨v0.heap.size, 1, none⟩ = some (.slice R89 (n + 1) cR89)) ∧ Below w22.heap.size w22 w22 from ⟨⟨t0', t1', b0, b1⟩, Below.refl _ _⟩)
            clear t0' t1' b0 b1
            go_region_held3 (fun w' => (w'.cell? ⟨w21.heap.size, 0, none⟩ = some (.int .i64 p1) ∧ w'.cell? ⟨w21.heap.size, 1, none⟩ = some (.int .i64 p2) ∧ w'.cell? ⟨v0.heap.size, 0, none⟩ = some (.int .i64 vars) ∧ w'.cell? ⟨v0.heap.size, 1, none⟩ = some (.slice R89 (n + 1) cR89)) ∧ Below w22.heap.size w22 w') (first | exact held4 (by assumption) (by assumption) | exact held4 (by assumption) (below_new _ _) | exact held4 (by assumption) (below_drewN _ _) | exact held4 Q0.out (below_drewN _ 1))
              ((go_at_call 23; (with_reducible refine (check_ref _ _ _ (xss ++ [cl]) vars _ ?_ hv p1 p2 hcc).mono ?_); (exact G22.out.keep (And.right (by assumption))); rintro e w23 ⟨rfl, hb23⟩))
            all_goals
              go_wp2_with fail
              go_ret
              exact ⟨rfl, below_next B22.out (And.right (by assumption))⟩
          · have HWY := Lib.hid hwy
            clear hwy
            go_wp2_with fail
            refine (take_any _ _ _ _ _ _ (xss ++ [cl]) rs vars wz XX.out hv HVx.out (-1) 0 0 HWY.out true (by show _ = _; rfl)).mono ?_
            rintro e w21 ⟨rfl, hb21⟩
            have a0 := keepBox hb21 k0
            have a1 := keepBox hb21 k1
            have la := (cell_lt a0).1
            have G21 := Lib.hid ((XX.out.keep hb21).keep (below_new w21 (.cells #[.int .i64 0, .int .i64 0] 28)))
            have B21 := Lib.hid (below_next BWW.out (below_next hb21 (below_new w21 (.cells #[.int .i64 0, .int .i64 0] 28))))
            clear hb21 k0 k1 lk
            go_wp2_with fail
            refine (check_ref _ _ _ (xss ++ [cl]) vars _ G21.out hv 0 0 hck2).mono ?_
            rintro e w22 ⟨rfl, hb22⟩
            obtain ⟨KT, Bx, _⟩ := blk1 hb22
            have t0' := KT.cell 0
            have t1' := KT.cell 1
            simp at t0' t1'
            have lt' := KT.lt
            have B22 := Lib.hid (below_next B21.out hb22)
            clear hb22 Bx KT a0 a1 la
            go_wp2_with fail
            go_ret
            exact ⟨rfl, B22.out⟩
end Go.Proofs.Ytplbiepfdfoglaa
