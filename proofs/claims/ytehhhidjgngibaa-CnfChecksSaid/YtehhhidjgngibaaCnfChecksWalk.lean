/- The walk of the law CnfChecks. -/
import Derived.Test.YtehhhidjgngibaaCnfB
import Derived.Deep.RegionHeld3
namespace Go.Proofs.Ytehhhidjgngibaa
open Go.RowKit

theorem held2 {W wa wb : World} {b : Nat} {x y : Value} (h : wa.cell? ⟨b, 0, none⟩ = some x ∧ wa.cell? ⟨b, 1, none⟩ = some y ∧ Below W.heap.size W wa) (hb : Below wa.heap.size wa wb) :
    wb.cell? ⟨b, 0, none⟩ = some x ∧ wb.cell? ⟨b, 1, none⟩ = some y ∧ Below W.heap.size W wb := ⟨keepBox hb h.1, keepBox hb h.2.1, below_next h.2.2 hb⟩

theorem grid_held {p q : Prop} {W wa : World} {A : Option Addr} {n c : Nat} {xss : List (List Int)} (h : Grid W A n c xss) (hh : p ∧ q ∧ Below W.heap.size W wa) : Grid wa A n c xss := h.keep hh.2.2

set_option maxHeartbeats 1000000 in
set_option maxRecDepth 100000 in
theorem cnfChecks_walk {vars : Int} {A : Option Addr} {n c : Nat} {xss : List (List Int)} (w : World) (hv : I64 vars) (h : Grid w A n c xss) :
    Calls Try.prog 7 #[.agg #[.int .i64 vars, .slice A n c]] w fun e w' => e = .returned (.bool true) ∧ Below w.heap.size w w' := by
  have hbd := h.bd
  obtain ⟨r1, r2, hr⟩ : ∃ r1 r2, Hid (checkC vars xss = (r1, r2)) := ⟨_, _, rfl⟩
  have h1 := h.keep (below_new w (.cells #[.int .i64 vars, .slice A n c] 41))
  go_enter Try.func7, Try.ntmps7
  go_wp2_with fail
  generalize hW : w.alloc (.cells #[.int .i64 vars, .slice A n c] 41) = W at h1 ⊢
  have c0 : W.cell? ⟨w.heap.size, 0, none⟩ = some (.int .i64 vars) := by rw [← hW]; simp [go_sem]
  have c1 : W.cell? ⟨w.heap.size, 1, none⟩ = some (.slice A n c) := by rw [← hW]; simp [go_sem]
  have HB : Hid (Below w.heap.size w W) := by rw [← hW]; exact below_new _ _
  clear hW h
  go_region_held3 (fun w' => w'.cell? ⟨w.heap.size, 0, none⟩ = some (.int .i64 vars) ∧ w'.cell? ⟨w.heap.size, 1, none⟩ = some (.slice A n c) ∧ Below W.heap.size W w') (first | exact held2 (by assumption) (by assumption) | exact held2 (by assumption) (below_new _ _) | exact ⟨c0, c1, below_drewN _ 1⟩)
    (first
      | (go_at_call 21; (with_reducible refine (check_own _ _ _ _ _ _ ?_ hv _ _ hr).mono ?_); (exact grid_held h1 (by assumption)); rintro e w1 ⟨rfl, hb1⟩)
      | (go_at_call 22; (with_reducible refine (check_ref _ _ _ _ _ _ ?_ hv _ _ hr).mono ?_); (exact grid_held h1 (by assumption)); rintro e w1 ⟨rfl, hb1⟩)
      | (go_at_call 21; (with_reducible refine (check_own _ _ _ [[2]] _ _ ?_ ?_ 3 0 ?_).mono ?_); (exact grid1 _ (by simp) (ints_made _ _ [2] rfl (by simp [I64]) (by decide))); (exact ⟨by omega, by omega⟩); rfl; rintro e w1 ⟨rfl, hb1⟩))
  have hF : Hid (Below w.heap.size w w1) := by
    have hH : w1.cell? ⟨w.heap.size, 0, none⟩ = some (.int .i64 vars) ∧ w1.cell? ⟨w.heap.size, 1, none⟩ = some (.slice A n c) ∧ Below W.heap.size W w1 := by assumption
    exact below_next HB.out hH.2.2
  go_wp2_with fail
  go_ret
  exact ⟨rfl, hF.out⟩
end Go.Proofs.Ytehhhidjgngibaa
