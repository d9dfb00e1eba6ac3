/- The walk of the law CnfHolds. -/
import Derived.Test.YtehhhidjgngibaaHolds
namespace Go.Proofs.Ytehhhidjgngibaa
open Go.RowKit

/-- The law's own look at an example: in false, true the pair holds. -/
theorem holds_pair {w : World} {A B : Option Addr} {n c m d : Nat} (h : Grid w A n c [[1, 2], [-1]]) (h' : Bools w B m d [false, true]) :
    Calls Try.prog 26 #[.agg #[.int .i64 2, .slice A n c], .slice B m d] w (RetV (.tuple #[.bool true, .agg #[.int .i64 0, .int .i64 0]]) w) := by
  have : m = 2 := by have := h'.len; simp at this; omega
  subst this
  exact holds_any A B n c 2 d _ _ 2 w h ⟨by omega, by omega⟩ h' 0 0 (by show _ = _; decide) true (by show _ = _; decide)

set_option maxHeartbeats 1000000 in
set_option maxRecDepth 100000 in
theorem cnfHolds_walk {vars : Int} {A B : Option Addr} {n c m d : Nat} {xss : List (List Int)} {a : List Bool} (w : World) (hv : I64 vars) (h : Grid w A n c xss) (h' : Bools w B m d a) :
    Calls Try.prog 9 #[.agg #[.int .i64 vars, .slice A n c], .slice B m d] w fun e w' => e = .returned (.bool true) ∧ Below w.heap.size w w' := by
  have hbd := h.bd
  have hbd' := h'.bd
  obtain ⟨r1, r2, hr⟩ : ∃ r1 r2, Hid (withR vars xss m = (r1, r2)) := ⟨_, _, rfl⟩
  obtain ⟨q, hq⟩ : ∃ q, Hid (q = (decide (r1 = 0) && allB xss a)) := ⟨_, rfl⟩
  have hk := h.keep (below_new w (.cells #[.int .i64 vars, .slice A n c] 41))
  have hk' := h'.keep (below_new w (.cells #[.int .i64 vars, .slice A n c] 41))
  go_enter Try.func9, Try.ntmps9
  go_wp2_with fail
  refine (holds_any _ _ _ _ _ _ _ _ _ _ hk hv hk' _ _ hr _ hq).mono ?_
  rintro e w1 ⟨rfl, hb1⟩
  obtain ⟨c0, c1, l0, B1⟩ := box2 hb1
  have HB1 := Lib.hid B1
  have g1 := (hk.keep hb1).keep (below_new w1 (.cells #[.int .i64 r1, .int .i64 r2] 24))
  have g1' := (hk'.keep hb1).keep (below_new w1 (.cells #[.int .i64 r1, .int .i64 r2] 24))
  clear hb1 B1 hk hk'
  go_wp2_with fail
  refine (with_any _ _ _ _ _ _ _ _ _ g1 hv (by omega) _ _ hr).mono ?_
  rintro e w2 ⟨rfl, hb2⟩
  obtain ⟨f0, f1, l1, B2⟩ := box2 hb2
  have C0 := keepBox B2 c0
  have C1 := keepBox B2 c1
  have HB2 := Lib.hid (below_next HB1.out B2)
  have g2 := (g1.keep hb2).keep (below_new w2 (.cells #[.int .i64 r1, .int .i64 r2] 24))
  have g2' := (g1'.keep hb2).keep (below_new w2 (.cells #[.int .i64 r1, .int .i64 r2] 24))
  have l2 : w.heap.size < w2.heap.size := by omega
  clear hb2 B2 c0 c1 g1 g1'
  by_cases hr1 : r1 = 0
  · subst hr1
    have hok : (checkC vars xss).1 = 0 ∧ (m : Int) = vars ∧ r2 = 0 := by
      have := hr.out
      unfold withR at this
      split at this
      · rename_i hh; rw [this] at hh; simp at hh
      · rename_i hh
        split at this
        · simp at this
        · rename_i hm; exact ⟨by simpa using hh, by simpa using hm, by simpa using (Prod.mk.inj this).2.symm⟩
    obtain ⟨hc1, hmv, rfl⟩ := hok
    have HI : Hid (∀ xs ∈ xss, InLits m xs) := fun xs hx => ((checkC_ok hc1).2.2.2.2 xs hx).2.inLits hmv
    have hq2 : Hid (allB xss a = q) := by rw [hq.out]; simp [Hid]
    clear hc1 hmv
    go_wp2_with fail
    refine (pair_any _).mono ?_
    rintro e w3 ⟨A3, n3, c3, rfl, G3, hb3⟩
    obtain ⟨x0, x1, l3, B3⟩ := box2 hb3
    have F0 := keepBox B3 f0
    have F1 := keepBox B3 f1
    have D0 := keepBox B3 C0
    have D1 := keepBox B3 C1
    have HB3 := Lib.hid (below_next HB2.out B3)
    have g3 := g2.keep hb3
    have g3' := g2'.keep hb3
    clear hb3 B3 f0 f1 C0 C1 g2 g2'
    go_wp2_with fail
    refine (holds_pair (G3.keep (below_new _ _)) (bools_made _ 4 [false, true] rfl (by decide))).mono ?_
    rintro e w4 ⟨rfl, hb4⟩
    have B4 := (below_box hb4).1
    have X0 := keepBox B4 x0
    have X1 := keepBox B4 x1
    have E0 := keepBox B4 F0
    have E1 := keepBox B4 F1
    have Y0 := keepBox B4 D0
    have Y1 := keepBox B4 D1
    have l4 := B4.size
    have l5 : w.heap.size < w4.heap.size := by omega
    have l6 : w1.heap.size < w4.heap.size := by omega
    have l7 : w2.heap.size < w4.heap.size := by omega
    have HB4 := Lib.hid (below_alloc (below_next HB3.out B4) (.cells #[.int .i64 0, .int .i64 0] 24))
    have g4 := (g3.keep B4).keep (below_new w4 (.cells #[.int .i64 0, .int .i64 0] 24))
    have g4' := (g3'.keep B4).keep (below_new w4 (.cells #[.int .i64 0, .int .i64 0] 24))
    clear hb4 B4 x0 x1 F0 F1 D0 D1 g3 g3' l4
    have eq : (q == q) = true := by simp
    go_wp2_with fail
    refine (all_ref _ _ _ _ _ _ _ _ _ g4 g4' HI.out _ hq2).mono ?_
    rintro e w5 ⟨rfl, k5, rfl⟩
    go_wp2_with fail
    go_ret
    exact ⟨rfl, below_next HB4.out (below_drewN _ _)⟩
  · obtain rfl : q = false := by rw [hq.out]; simp [hr1]
    have d1 : (r1 != 0) = true := by simpa using hr1
    go_wp2_with fail
    go_ret
    exact ⟨rfl, below_alloc HB2.out _⟩
end Go.Proofs.Ytehhhidjgngibaa
