/- The walk of the law CnfReads: it returns true. (Printed by wip/tools/cnfreads.py.) -/
import Derived.Test.YtabjbpkojbdgaaaDoorReadOwn
import Derived.Test.YtabjbpkojbdgaaaDoorReadRef
import Derived.Test.YtabjbpkojbdgaaaDoorRows2
import Derived.Test.YtabjbpkojbdgaaaDoorHolds
import Derived.Deep.RegionHeld3
namespace Go.Proofs.YtabjbpkojbdgaaaDoor
open Go.RowKit
set_option linter.unusedSimpArgs false
set_option linter.unusedVariables false

/-- 11 cells, kept. -/
theorem held11 {W wa wb : World} {a0 a1 a2 a3 a4 a5 a6 a7 a8 a9 a10 : Addr} {v0 v1 v2 v3 v4 v5 v6 v7 v8 v9 v10 : Value} (h : wa.cell? a0 = some v0 ∧ wa.cell? a1 = some v1 ∧ wa.cell? a2 = some v2 ∧ wa.cell? a3 = some v3 ∧ wa.cell? a4 = some v4 ∧ wa.cell? a5 = some v5 ∧ wa.cell? a6 = some v6 ∧ wa.cell? a7 = some v7 ∧ wa.cell? a8 = some v8 ∧ wa.cell? a9 = some v9 ∧ wa.cell? a10 = some v10 ∧ Below W.heap.size W wa) (hb : Below wa.heap.size wa wb) :
    wb.cell? a0 = some v0 ∧ wb.cell? a1 = some v1 ∧ wb.cell? a2 = some v2 ∧ wb.cell? a3 = some v3 ∧ wb.cell? a4 = some v4 ∧ wb.cell? a5 = some v5 ∧ wb.cell? a6 = some v6 ∧ wb.cell? a7 = some v7 ∧ wb.cell? a8 = some v8 ∧ wb.cell? a9 = some v9 ∧ wb.cell? a10 = some v10 ∧ Below W.heap.size W wb := ⟨keepBox hb h.1, keepBox hb h.2.1, keepBox hb h.2.2.1, keepBox hb h.2.2.2.1, keepBox hb h.2.2.2.2.1, keepBox hb h.2.2.2.2.2.1, keepBox hb h.2.2.2.2.2.2.1, keepBox hb h.2.2.2.2.2.2.2.1, keepBox hb h.2.2.2.2.2.2.2.2.1, keepBox hb h.2.2.2.2.2.2.2.2.2.1, keepBox hb h.2.2.2.2.2.2.2.2.2.2.1, below_next h.2.2.2.2.2.2.2.2.2.2.2 hb⟩
theorem held11_bl {W wa : World} {a0 a1 a2 a3 a4 a5 a6 a7 a8 a9 a10 : Addr} {v0 v1 v2 v3 v4 v5 v6 v7 v8 v9 v10 : Value} (h : wa.cell? a0 = some v0 ∧ wa.cell? a1 = some v1 ∧ wa.cell? a2 = some v2 ∧ wa.cell? a3 = some v3 ∧ wa.cell? a4 = some v4 ∧ wa.cell? a5 = some v5 ∧ wa.cell? a6 = some v6 ∧ wa.cell? a7 = some v7 ∧ wa.cell? a8 = some v8 ∧ wa.cell? a9 = some v9 ∧ wa.cell? a10 = some v10 ∧ Below W.heap.size W wa) : Below W.heap.size W wa := h.2.2.2.2.2.2.2.2.2.2.2
theorem rowsB_refl_r : ∀ xss : List (List Int), rowsB xss xss = true := fun xss => by simp [rowsB]
theorem read_pair : readF [112, 32, 99, 110, 102, 32, 50, 32, 50, 32, 10, 32, 49, 32, 50, 32, 48, 32, 45, 49, 10, 48] = (2, [[1, 2], [-1]], 0, 0) := by decide +kernel

set_option maxHeartbeats 4000000 in
set_option maxRecDepth 100000 in
theorem cnfReads_walk {s : ByteArray} (w : World) (hE : Errs w) (hs : s.size ≤ maxLen) :
    Calls Tryd.prog 4 #[.string s] w fun e w' => e = .returned (.bool true) ∧ Below w.heap.size w w' := by
  obtain ⟨v, xss, fc, fa, hr⟩ : ∃ v xss fc fa, Hid (readF s.data.toList = (v, xss, fc, fa)) := ⟨_, _, _, _, rfl⟩
  go_enter Tryd.func4, Tryd.ntmps4
  go_wp2_with fail
  refine (read_own s w hs hE _ hr).mono ?_
  rintro e w1 ⟨A1, n1, c1, rfl, G1, hb1⟩
  obtain ⟨u1, hu1⟩ : ∃ z : World, z = (w1.alloc (.cells #[.int .i64 v, .slice A1 n1 c1] 24)).alloc (.cells #[.int .i64 fc, .int .i64 fa] 26) := ⟨_, rfl⟩
  have hbu1 : Below w1.heap.size w1 u1 := by rw [hu1]; exact below_alloc (below_new _ _) _
  have K1 : Hid (Blk u1 w1.heap.size 24 #[.int .i64 v, .slice A1 n1 c1]) := by rw [hu1]; exact (Blk.new _ _ _).alloc _
  have L1 : Hid (Blk u1 (w1.heap.size + 1) 26 #[.int .i64 fc, .int .i64 fa]) := by rw [hu1]; have := Blk.new (w1.alloc (.cells #[.int .i64 v, .slice A1 n1 c1] 24)) 26 #[.int .i64 fc, .int .i64 fa]; simpa [Hid] using this
  have HG1 := Lib.hid (G1.keep hbu1)
  have HB1 := Lib.hid (below_next hb1 hbu1)
  obtain ⟨b1, hb1e⟩ : ∃ q : Nat, w1.heap.size = q := ⟨_, rfl⟩
  clear G1 hb1
  go_wp2_with fail
  rw [← hu1]
  rw [hb1e] at K1 L1
  clear hu1 hbu1 hb1e
  refine (read_ref s u1 hs _ hr).mono ?_
  rintro e w2 ⟨A2, n2, c2, rfl, G2, hb2⟩
  have K1' := Lib.hid (K1.out.keep hb2)
  have L1' := Lib.hid (L1.out.keep hb2)
  have HG1' := Lib.hid (HG1.out.keep hb2)
  have HB2 := Lib.hid (below_next HB1.out hb2)
  clear K1 L1 HG1 HB1
  obtain ⟨u2, hu2⟩ : ∃ z : World, z = (w2.alloc (.cells #[.int .i64 v, .slice A2 n2 c2] 24)).alloc (.cells #[.int .i64 fc, .int .i64 fa] 26) := ⟨_, rfl⟩
  have hbu2 : Below w2.heap.size w2 u2 := by rw [hu2]; exact below_alloc (below_new _ _) _
  have K2 : Hid (Blk u2 w2.heap.size 24 #[.int .i64 v, .slice A2 n2 c2]) := by rw [hu2]; exact (Blk.new _ _ _).alloc _
  have L2 : Hid (Blk u2 (w2.heap.size + 1) 26 #[.int .i64 fc, .int .i64 fa]) := by rw [hu2]; have := Blk.new (w2.alloc (.cells #[.int .i64 v, .slice A2 n2 c2] 24)) 26 #[.int .i64 fc, .int .i64 fa]; simpa [Hid] using this
  have KA := Lib.hid (K1'.out.keep hbu2)
  have LA := Lib.hid (L1'.out.keep hbu2)
  have HGA := Lib.hid (HG1'.out.keep hbu2)
  have HG2 := Lib.hid (G2.keep hbu2)
  have HB2' := Lib.hid (below_next HB2.out hbu2)
  have HE2 := Lib.hid (hE.keep HB2'.out)
  obtain ⟨b2, hb2e⟩ : ∃ q : Nat, w2.heap.size = q := ⟨_, rfl⟩
  clear G2 hb2 K1' L1' HG1' HB2
  go_wp2_with fail
  rw [← hu2]
  rw [hb2e] at K2 L2
  clear hu2 hbu2 hb2e
  refine (read_own _ u2 (by decide) HE2.out _ (Lib.hid read_pair)).mono ?_
  rintro e w3 ⟨A3, n3, c3, rfl, G3, hb3⟩
  have KB := Lib.hid (KA.out.keep hb3)
  have LB := Lib.hid (LA.out.keep hb3)
  have KC := Lib.hid (K2.out.keep hb3)
  have LC := Lib.hid (L2.out.keep hb3)
  have HGB := Lib.hid (HGA.out.keep hb3)
  have HGC := Lib.hid (HG2.out.keep hb3)
  have HB3 := Lib.hid (below_next HB2'.out hb3)
  clear KA LA K2 L2 HGA HG2 HB2' HE2
  obtain ⟨W, hW⟩ : ∃ z : World, z = (w3.alloc (.cells #[.int .i64 2, .slice A3 n3 c3] 24)).alloc (.cells #[.int .i64 0, .int .i64 0] 26) := ⟨_, rfl⟩
  have hbW : Below w3.heap.size w3 W := by rw [hW]; exact below_alloc (below_new _ _) _
  have K3 : Hid (Blk W w3.heap.size 24 #[.int .i64 2, .slice A3 n3 c3]) := by rw [hW]; exact (Blk.new _ _ _).alloc _
  have L3 : Hid (Blk W (w3.heap.size + 1) 26 #[.int .i64 0, .int .i64 0]) := by rw [hW]; have := Blk.new (w3.alloc (.cells #[.int .i64 2, .slice A3 n3 c3] 24)) 26 #[.int .i64 0, .int .i64 0]; simpa [Hid] using this
  have M1 := KB.out.keep hbW
  have M2 := LB.out.keep hbW
  have M3 := KC.out.keep hbW
  have M4 := LC.out.keep hbW
  have X1 := Lib.hid (HGB.out.keep hbW)
  have X2 := Lib.hid (HGC.out.keep hbW)
  have X3 := Lib.hid (G3.keep hbW)
  have HBW := Lib.hid (below_next HB3.out hbW)
  obtain ⟨b3, hb3e⟩ : ∃ q : Nat, w3.heap.size = q := ⟨_, rfl⟩
  clear G3 hb3 KB LB KC LC HGB HGC HB3
  go_wp2_with fail
  rw [← hW]
  rw [hb3e] at K3 L3
  clear hW hbW hb3e
  have Q0 : Hid (W.cell? ⟨b1, 0, none⟩ = some (.int .i64 v) ∧ W.cell? ⟨b1, 1, none⟩ = some (.slice A1 n1 c1) ∧ W.cell? ⟨b1 + 1, 0, none⟩ = some (.int .i64 fc) ∧ W.cell? ⟨b1 + 1, 1, none⟩ = some (.int .i64 fa) ∧ W.cell? ⟨b2, 0, none⟩ = some (.int .i64 v) ∧ W.cell? ⟨b2, 1, none⟩ = some (.slice A2 n2 c2) ∧ W.cell? ⟨b2 + 1, 0, none⟩ = some (.int .i64 fc) ∧ W.cell? ⟨b2 + 1, 1, none⟩ = some (.int .i64 fa) ∧ W.cell? ⟨b3, 0, none⟩ = some (.int .i64 2) ∧ W.cell? ⟨b3, 1, none⟩ = some (.slice A3 n3 c3) ∧ W.cell? ⟨b3 + 1, 0, none⟩ = some (.int .i64 0) ∧ Below W.heap.size W W) := by
    have k10 := M1.cell 0
    have k11 := M1.cell 1
    have k20 := M2.cell 0
    have k21 := M2.cell 1
    have k30 := M3.cell 0
    have k31 := M3.cell 1
    have k40 := M4.cell 0
    have k41 := M4.cell 1
    have k50 := K3.out.cell 0
    have k51 := K3.out.cell 1
    have k60 := L3.out.cell 0
    simp at k10 k11 k20 k21 k30 k31 k40 k41 k50 k51 k60
    exact ⟨k10, k11, k20, k21, k30, k31, k40, k41, k50, k51, k60, Below.refl _ _⟩
  clear M1 M2 M3 M4 K3 L3
  have vv : (v == v) = true := by simp
  go_region_held3 (fun w' => w'.cell? ⟨b1, 0, none⟩ = some (.int .i64 v) ∧ w'.cell? ⟨b1, 1, none⟩ = some (.slice A1 n1 c1) ∧ w'.cell? ⟨b1 + 1, 0, none⟩ = some (.int .i64 fc) ∧ w'.cell? ⟨b1 + 1, 1, none⟩ = some (.int .i64 fa) ∧ w'.cell? ⟨b2, 0, none⟩ = some (.int .i64 v) ∧ w'.cell? ⟨b2, 1, none⟩ = some (.slice A2 n2 c2) ∧ w'.cell? ⟨b2 + 1, 0, none⟩ = some (.int .i64 fc) ∧ w'.cell? ⟨b2 + 1, 1, none⟩ = some (.int .i64 fa) ∧ w'.cell? ⟨b3, 0, none⟩ = some (.int .i64 2) ∧ w'.cell? ⟨b3, 1, none⟩ = some (.slice A3 n3 c3) ∧ w'.cell? ⟨b3 + 1, 0, none⟩ = some (.int .i64 0) ∧ Below W.heap.size W w') (first | exact held11 (by assumption) (by assumption) | exact held11 (by assumption) (below_new _ _) | exact held11 (by assumption) (below_drewN _ _) | exact held11 Q0.out (below_drewN _ 1))
    (first
      | (go_at_call 11; (with_reducible refine (pair_any _).mono ?_); rintro e w6 ⟨A6, n6, c6, rfl, G6, hb6⟩)
      | (go_at_call 10; (with_reducible refine (cnfs_any A1 A2 _ _ _ _ xss xss _ _ _ ?_ ?_ true ?_).mono ?_); (exact X1.out.keep (held11_bl (by assumption))); (exact X2.out.keep (held11_bl (by assumption))); (show _ = _; rw [vv, rowsB_refl_r]; rfl); rintro e w7 ⟨rfl, hb7⟩)
      | (go_at_call 10; (with_reducible refine (cnfs_any A3 _ _ _ _ _ [[1, 2], [-1]] [[1, 2], [-1]] _ _ _ ?_ ?_ true ?_).mono ?_); (exact X3.out.keep (held11_bl (by assumption))); (first | exact G6 | exact G6.keep (by assumption)); (show _ = _; decide); rintro e w8 ⟨rfl, hb8⟩))
  go_wp2_with fail
  go_ret
  exact ⟨rfl, below_next HBW.out (held11_bl (by assumption))⟩
end Go.Proofs.YtabjbpkojbdgaaaDoor
