/- Contracts of the closures of check.Why. (Printed by wip/tools/check.py.) -/
import Derived.Test.YtabjbpkojbdgaaaStepPlain
import Derived.Test.YtabjbpkojbdgaaaSorted
import Derived.Test.YtabjbpkojbdgaaaNormA
import Derived.Test.YtabjbpkojbdgaaaRowFn
import Derived.Deep.RegionHeld3
namespace Go.Proofs.Ytabjbpkojbdgaaa
open Go.RowKit
set_option linter.unusedSimpArgs false

theorem held1 {W wa wb : World} {a0 : Addr} {v0 : Value} (h : wa.cell? a0 = some v0 ∧ Below W.heap.size W wa) (hb : Below wa.heap.size wa wb) : wb.cell? a0 = some v0 ∧ Below W.heap.size W wb := ⟨keepBox hb h.1, below_next h.2 hb⟩
set_option maxHeartbeats 4000000 in
set_option maxRecDepth 100000 in
theorem why1_any (A S : Option Addr) (n c ns cs b : Nat) (xs ys : List Int) (W : World) (hc : W.cell? ⟨b, 0, none⟩ = some (.slice S ns cs)) (hS : Ints W S ns cs (sortF xs)) (h : Ints W A n c ys) (hy : ∀ x ∈ ys, -1000000 ≤ x ∧ x ≤ 1000000) (hn : n ≤ 1000000) :
    Calls Try.prog 94 #[.slice A n c, .pointer (some ⟨b, 0, none⟩)] W (RetV (.bool (likeB xs ys)) W) := by
  have hbd := h.bd
  have hbs := hS.bd
  have hl := Lib.hid h.len
  have hls := Lib.hid hS.len
  have HY := Lib.hid h
  have HS := Lib.hid hS
  have HYB := Lib.hid hy
  obtain ⟨r, hr⟩ : ∃ r, Hid (likeB xs ys = r) := ⟨_, rfl⟩
  rw [hr.out]
  clear h hS hy
  by_cases hnn : n = ns
  · subst hnn
    have dn : ((n : Int) == (n : Int)) = true := by simp
    have hr2 : Hid (sameB (sortF ys) (sortF xs) = r) := by have := hr.out; unfold likeB at this; rw [hl.out, show xs.length = n by rw [← sortF_len xs]; exact hls.out] at this; simpa [sameB, Hid] using this
    have Q0 := Lib.hid (show W.cell? ⟨b, 0, none⟩ = some (.slice S n cs) ∧ Below W.heap.size W W from ⟨hc, Below.refl _ _⟩)
    go_enter Try.func94, Try.ntmps94
    go_wp2_with fail
    go_region_held3 (fun w' => w'.cell? ⟨b, 0, none⟩ = some (.slice S n cs) ∧ Below W.heap.size W w') (first | exact held1 (by assumption) (by assumption) | exact held1 (by assumption) (below_new _ _) | exact held1 (by assumption) (below_drewN _ _) | exact held1 Q0.out (below_drewN _ 1))
      (first
        | (go_at_call 57; (with_reducible refine (sorted_any _ _ _ ys _ ?_ HYB.out hn).mono ?_); (exact HY.out.keep (And.right (by assumption))); rintro e w6 ⟨A6, n6, c6, rfl, hO6, hb6⟩; have I6 := hO6.ints (fun q hq => (by have := HYB.out q (sortF_mem.1 hq); unfold I64; omega)); clear hO6)
        | (go_at_call 95; (with_reducible refine (equal_ints _ _ _ _ _ _ (sortF ys) (sortF xs) _ ?_ ?_ r hr2).mono ?_); (exact I6); (exact HS.out.keep (And.right (by assumption))); rintro e w8 ⟨rfl, k8, rfl⟩))
    all_goals
      go_wp2_with fail
      go_ret
      exact ⟨rfl, And.right (by assumption)⟩
  · have dn : ((n : Int) == (ns : Int)) = false := by simp; omega
    obtain rfl : false = r := by
      rw [← hr.out]
      unfold likeB
      rw [hl.out, show xs.length = ns by rw [← sortF_len xs]; exact hls.out]
      simp [hnn]
    go_enter Try.func94, Try.ntmps94
    go_wp2_with fail
    go_quiet (fail)
    go_wp2_with fail
    go_ret
    exact ⟨rfl, below_drewN _ _⟩
theorem enters_why1 : Enters Try.prog 94 := enters_of Try.func94 (by kernel_rfl) rfl
theorem why2_any (A : Option Addr) (n c : Nat) (xs : List Int) (W : World) (h : Ints W A n c xs) : Calls Try.prog 98 #[.slice A n c] W (RetV (.bool xs.isEmpty) W) := by
  have hbd := h.bd
  have hl := h.len
  have e : xs.isEmpty = decide (n = 0) := by rw [Bool.eq_iff_iff, List.isEmpty_iff_length_eq_zero, hl]; simp
  rw [e]
  by_cases h0 : n = 0
  · subst h0
    go_enter Try.func98, Try.ntmps98
    go_wp2_with fail
    go_ret
    exact ⟨rfl, Below.refl _ _⟩
  · have d1 : ((n : Int) == 0) = false := by simp; omega
    have d2 : decide (n = 0) = false := by simp; omega
    rw [d2]
    go_enter Try.func98, Try.ntmps98
    go_wp2_with fail
    go_ret
    exact ⟨rfl, Below.refl _ _⟩
theorem enters_why2 : Enters Try.prog 98 := enters_of Try.func98 (by kernel_rfl) rfl
end Go.Proofs.Ytabjbpkojbdgaaa
