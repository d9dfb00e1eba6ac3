/- The walk of the law CnfBack: it returns true. (Printed by wip/tools/cnfback.py.) -/
import Derived.Test.YtabjbpkojbdgaaaGreatDoorReadOwn
import Derived.Test.YtabjbpkojbdgaaaGreatDoorTextOwn
import Derived.Test.YtabjbpkojbdgaaaGreatDoorBackPlain
import Derived.Test.YtabjbpkojbdgaaaGreatDoorNorm
import Derived.Test.YtabjbpkojbdgaaaGreatDoorRows2
namespace Go.Proofs.YtabjbpkojbdgaaaGreatDoor
open Go.RowKit
set_option linter.unusedSimpArgs false
set_option linter.unusedVariables false

theorem rowsB_refl_b : ∀ xss : List (List Int), rowsB xss xss = true := fun xss => by simp [rowsB]

set_option maxHeartbeats 4000000 in
set_option maxRecDepth 100000 in
theorem cnfBack_walk {vars : Int} {A : Option Addr} {n c : Nat} {xss : List (List Int)} (w : World) (hE : Errs w) (hv : I64 vars) (h : Grid w A n c xss) :
    Calls Tryz.prog 3 #[.agg #[.int .i64 vars, .slice A n c]] w fun e w' => e = .returned (.bool true) ∧ Below w.heap.size w w' := by
  have hbd := h.bd
  obtain ⟨r1, r2, hr⟩ : ∃ r1 r2, Hid (checkC vars xss = (r1, r2)) := ⟨_, _, rfl⟩
  go_enter Tryz.func3, Tryz.ntmps3
  go_wp2_with fail
  obtain ⟨u0, hu0⟩ : ∃ q : World, q = w.alloc (.cells #[.int .i64 vars, .slice A n c] 24) := ⟨_, rfl⟩
  have hbu0 : Below w.heap.size w u0 := by rw [hu0]; exact below_new _ _
  have K : Hid (Blk u0 w.heap.size 24 #[.int .i64 vars, .slice A n c]) := by rw [hu0]; exact Blk.new _ _ _
  have G0 := Lib.hid (h.keep hbu0)
  have HU0 := Lib.hid hbu0
  have HE0 := Lib.hid (hE.keep hbu0)
  rw [← hu0]
  obtain ⟨b0, hb0e⟩ : ∃ q : Nat, w.heap.size = q := ⟨_, rfl⟩
  rw [hb0e] at K ⊢
  have HB0 := Lib.hid hb0e
  clear hu0 hbu0 h hb0e
  by_cases h0 : r1 = 0
  · subst h0
    have hck := Lib.hid (checkC_ok (vars := vars) (xss := xss) (by rw [hr.out])).1
    obtain ⟨R, hR⟩ : ∃ R, Hid (bsOf (textF vars xss) = R) := ⟨_, rfl⟩
    have hRl : R.data.toList = textF vars xss := by rw [← hR.out]; rfl
    have hRF : Hid (readF R.data.toList = (vars, xss, 0, 0)) := by show _ = _; rw [hRl]; exact read_text hck.out
    have hRne : (R.toList == []) = false := by
      rw [ByteArray.toList_eq, hRl]
      exact beq_eq_false_iff_ne.2 (by simp [textF, headF])
    have hRsz : R.size ≤ maxLen := by
      have hc := checkC_text hck.out
      have h1 := text_le hc.1 hc.2.1 hc.2.2.1 (fun x hx => ⟨(hc.2.2.2 x hx).1, fun y hy => by have := (hc.2.2.2 x hx).2.1 y hy; omega⟩)
      rw [← hRl, ← size_list] at h1
      simp only [maxLen]
      omega
    have hck2 : Hid (checkC vars (normF xss) = (0, 0)) := check_norm (by rw [hck.out])
    clear hr hRl
    refine (text_ok _ _ _ _ _ u0 G0.out hv hck HE0.out.tab R hR).mono ?_
    rintro e w1 ⟨rfl, hb1⟩
    obtain ⟨u1, hu1⟩ : ∃ z : World, z = w1.alloc (.cells #[.int .i64 0, .int .i64 0] 26) := ⟨_, rfl⟩
    have hbu1 : Below w1.heap.size w1 u1 := by rw [hu1]; exact below_new _ _
    have HU1 := Lib.hid (below_next (below_next HU0.out hb1) hbu1)
    have K1 := Lib.hid ((K.out.keep hb1).keep hbu1)
    have G1 := Lib.hid ((G0.out.keep hb1).keep hbu1)
    have HE1 := Lib.hid ((HE0.out.keep hb1).keep hbu1)
    clear hb1 K G0 HE0 HU0 hR
    go_wp2_with fail
    rw [← hu1]
    clear hu1 hbu1
    refine (read_own R u1 hRsz HE1.out _ hRF).mono ?_
    rintro e w2 ⟨A2, n2, c2, rfl, G2, hb2⟩
    have K1b := Lib.hid (K1.out.keep hb2)
    have G1b := Lib.hid (G1.out.keep hb2)
    clear K1 G1 HE1
    obtain ⟨u2, hu2⟩ : ∃ z : World, z = (w2.alloc (.cells #[.int .i64 vars, .slice A2 n2 c2] 24)).alloc (.cells #[.int .i64 0, .int .i64 0] 26) := ⟨_, rfl⟩
    have hbu2 : Below w2.heap.size w2 u2 := by rw [hu2]; exact below_alloc (below_new _ _) _
    have K2 : Hid (Blk u2 w2.heap.size 24 #[.int .i64 vars, .slice A2 n2 c2]) := by rw [hu2]; exact (Blk.new _ _ _).alloc _
    have L2 : Hid (Blk u2 (w2.heap.size + 1) 26 #[.int .i64 0, .int .i64 0]) := by rw [hu2]; have := Blk.new (w2.alloc (.cells #[.int .i64 vars, .slice A2 n2 c2] 24)) 26 #[.int .i64 0, .int .i64 0]; simpa [Hid] using this
    have HU2 := Lib.hid (below_next (below_next HU1.out hb2) hbu2)
    have KA := Lib.hid (K1b.out.keep hbu2)
    have GA := Lib.hid (G1b.out.keep hbu2)
    have GB := Lib.hid (G2.keep hbu2)
    obtain ⟨b2, hb2e⟩ : ∃ q : Nat, w2.heap.size = q := ⟨_, rfl⟩
    have k0 := K1b.out.cell 0
    have k1 := K1b.out.cell 1
    have k2 := K1b.out.lt
    simp at k0 k1
    rw [hb2e] at K2 L2 k2
    clear hb2 G2 K1b G1b HU1
    go_wp2_with fail
    try rw [← hu2]
    clear hu2 hbu2 hb2e k0 k1 k2
    refine (norm_own _ _ _ _ _ u2 GA.out hv hck).mono ?_
    rintro e w3 ⟨A3, n3, c3, rfl, O3, hb3⟩
    have G3 := O3.grid.clip
    have KB := Lib.hid (KA.out.keep hb3)
    have KC := Lib.hid (K2.out.keep hb3)
    have LC := Lib.hid (L2.out.keep hb3)
    have GC := Lib.hid (GA.out.keep hb3)
    have GD := Lib.hid (GB.out.keep hb3)
    clear KA K2 L2 GA GB
    obtain ⟨u3, hu3⟩ : ∃ z : World, z = (w3.alloc (.cells #[.int .i64 vars, .slice A3 n3 n3] 24)).alloc (.cells #[.int .i64 0, .int .i64 0] 26) := ⟨_, rfl⟩
    have hbu3 : Below w3.heap.size w3 u3 := by rw [hu3]; exact below_alloc (below_new _ _) _
    have K3 : Hid (Blk u3 w3.heap.size 24 #[.int .i64 vars, .slice A3 n3 n3]) := by rw [hu3]; exact (Blk.new _ _ _).alloc _
    have L3 : Hid (Blk u3 (w3.heap.size + 1) 26 #[.int .i64 0, .int .i64 0]) := by rw [hu3]; have := Blk.new (w3.alloc (.cells #[.int .i64 vars, .slice A3 n3 n3] 24)) 26 #[.int .i64 0, .int .i64 0]; simpa [Hid] using this
    have HU3 := Lib.hid (below_next (below_next HU2.out hb3) hbu3)
    have KD := Lib.hid (KB.out.keep hbu3)
    have KE := Lib.hid (KC.out.keep hbu3)
    have LE := Lib.hid (LC.out.keep hbu3)
    have GE := Lib.hid (GC.out.keep hbu3)
    have GF := Lib.hid (GD.out.keep hbu3)
    have GG := Lib.hid (G3.keep hbu3)
    obtain ⟨b3, hb3e⟩ : ∃ q : Nat, w3.heap.size = q := ⟨_, rfl⟩
    rw [hb3e] at K3 L3
    clear hb3 O3 G3 KB KC LC GC GD HU2
    go_wp2_with fail
    try rw [← hu3]
    clear hu3 hbu3 hb3e
    refine (norm_own _ _ _ _ _ u3 GG.out hv hck2).mono ?_
    rintro e w4 ⟨A4, n4, c4, rfl, O4, hb4⟩
    rw [normF_idem] at O4
    have G4 := O4.grid.clip
    have KF := Lib.hid (KD.out.keep hb4)
    have KG := Lib.hid (KE.out.keep hb4)
    have LG := Lib.hid (LE.out.keep hb4)
    have KH := Lib.hid (K3.out.keep hb4)
    have LH := Lib.hid (L3.out.keep hb4)
    have GH := Lib.hid (GE.out.keep hb4)
    have GI := Lib.hid (GF.out.keep hb4)
    have GJ := Lib.hid (GG.out.keep hb4)
    clear KD KE LE K3 L3 GE GF GG
    obtain ⟨u4, hu4⟩ : ∃ z : World, z = (w4.alloc (.cells #[.int .i64 vars, .slice A4 n4 n4] 24)).alloc (.cells #[.int .i64 0, .int .i64 0] 26) := ⟨_, rfl⟩
    have hbu4 : Below w4.heap.size w4 u4 := by rw [hu4]; exact below_alloc (below_new _ _) _
    have K4 : Hid (Blk u4 w4.heap.size 24 #[.int .i64 vars, .slice A4 n4 n4]) := by rw [hu4]; exact (Blk.new _ _ _).alloc _
    have L4 : Hid (Blk u4 (w4.heap.size + 1) 26 #[.int .i64 0, .int .i64 0]) := by rw [hu4]; have := Blk.new (w4.alloc (.cells #[.int .i64 vars, .slice A4 n4 n4] 24)) 26 #[.int .i64 0, .int .i64 0]; simpa [Hid] using this
    have HU4 := Lib.hid (below_next (below_next HU3.out hb4) hbu4)
    have Q0 := Lib.hid (KF.out.keep hbu4)
    have Q1 := Lib.hid (KG.out.keep hbu4)
    have Q2 := Lib.hid (LG.out.keep hbu4)
    have Q3 := Lib.hid (KH.out.keep hbu4)
    have Q4 := Lib.hid (LH.out.keep hbu4)
    have X0 := Lib.hid (GH.out.keep hbu4)
    have X1 := Lib.hid (GI.out.keep hbu4)
    have X2 := Lib.hid (GJ.out.keep hbu4)
    have X3 := Lib.hid (G4.keep hbu4)
    obtain ⟨b4, hb4e⟩ : ∃ q : Nat, w4.heap.size = q := ⟨_, rfl⟩
    rw [hb4e] at K4 L4
    have p0 := KF.out.cell 0
    have p1 := KF.out.cell 1
    have p2 := KF.out.lt
    have q0 := KG.out.cell 0
    have q1 := KG.out.cell 1
    have q2 := KG.out.lt
    have r0 := LG.out.cell 0
    have r3 := LG.out.lt
    have s0 := KH.out.cell 0
    have s1 := KH.out.cell 1
    have s2 := KH.out.lt
    have t0 := LH.out.cell 0
    have t3 := LH.out.lt
    simp at p0 p1 q0 q1 r0 s0 s1 t0
    rw [hb4e] at p2 q2 r3 s2 t3
    clear hb4 O4 G4 KF KG LG KH LH GH GI GJ HU3
    have vv : (vars == vars) = true := by simp
    go_wp2_with fail
    rw [← hu4]
    refine (cnfs_any A A2 _ _ _ _ xss xss vars vars _ (X0.out) (X1.out) true (by show _ = _; rw [vv, rowsB_refl_b]; rfl)).mono ?_
    rintro e w5 ⟨rfl, hb5⟩
    have Y3 := Lib.hid (Q3.out.keep hb5)
    have Y4 := Lib.hid (Q4.out.keep hb5)
    have Z3 := Lib.hid (K4.out.keep hb5)
    have Z4 := Lib.hid (L4.out.keep hb5)
    have V2 := Lib.hid (X2.out.keep hb5)
    have V3 := Lib.hid (X3.out.keep hb5)
    have HU5 := Lib.hid (below_next HU4.out hb5)
    have s0 := Y3.out.cell 0
    have s1 := Y3.out.cell 1
    have s2 := Y3.out.lt
    have t0 := Y4.out.cell 0
    have t3 := Y4.out.lt
    have m0 := Z3.out.cell 0
    have m1 := Z3.out.cell 1
    have m2 := Z3.out.lt
    have n0 := Z4.out.cell 0
    have n3 := Z4.out.lt
    simp at s0 s1 t0 m0 m1 n0
    clear hb5 Q0 Q1 Q2 Q3 Q4 X0 X1 X2 X3 K4 L4 hu4 hbu4 HU4
    go_wp2_with fail
    refine (cnfs_any A3 A4 _ _ _ _ (normF xss) (normF xss) vars vars _ V2.out V3.out true (by show _ = _; rw [vv, rowsB_refl_b]; rfl)).mono ?_
    rintro e w6 ⟨rfl, hb6⟩
    have HU6 := Lib.hid (below_next HU5.out hb6)
    clear hb6
    go_wp2_with fail
    go_ret
    exact ⟨rfl, HU6.out⟩
  · refine (text_no _ _ _ _ _ u0 G0.out hv _ _ hr h0).mono ?_
    rintro e w1 ⟨rfl, hb1⟩
    have HU1 := Lib.hid (below_next HU0.out hb1)
    have d1 : (r1 != 0) = true := by simpa using h0
    clear hb1 K G0 HE0 HU0 h0 hr
    go_wp2_with fail
    go_ret
    exact ⟨rfl, below_next HU1.out (below_new _ _)⟩
end Go.Proofs.YtabjbpkojbdgaaaGreatDoor
