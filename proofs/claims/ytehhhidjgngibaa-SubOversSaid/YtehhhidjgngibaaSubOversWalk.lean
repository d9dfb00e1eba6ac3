/- The walk of the law SubOvers. -/
import Derived.Test.YtehhhidjgngibaaSubA
namespace Go.Proofs.Ytehhhidjgngibaa
open Go.RowKit

set_option maxHeartbeats 2000000 in
set_option maxRecDepth 100000 in
theorem subOvers_walk {A B : Option Addr} {n c m d : Nat} {xs ys : List Int} (w : World) (h : Ints w A n c xs) (h' : Ints w B m d ys) :
    Calls Try.prog 8 #[.slice A n c, .slice B m d] w fun e w' => e = .returned (.bool true) ∧ Below w.heap.size w w' := by
  have hbd := h.bd
  have hbd' := h'.bd
  have hl := Lib.hid h.len
  have hl' := Lib.hid h'.len
  by_cases hn : 120 < n
  · have hr : Hid (overR xs ys = (false, 2, 0)) := by show _ = _; rw [overR, if_pos (by rw [hl.out]; exact hn)]
    go_enter Try.func8, Try.ntmps8
    go_wp2_with fail
    refine (sub_Over _ _ _ _ _ _ _ _ _ h h' _ _ _ hr).mono ?_
    rintro e w1 ⟨rfl, hb1⟩
    go_wp2_with fail
    go_ret
    exact ⟨rfl, below_alloc (below_alloc hb1 _) _⟩
  · obtain ⟨p1, p2, hp⟩ : ∃ p1 p2, Hid (badF 120 [] xs = (p1, p2)) := ⟨_, _, rfl⟩
    by_cases hp2 : p2 = 0
    · subst hp2
      by_cases hm : 120 < m
      · have hr : Hid (overR xs ys = (false, 2, -1)) := by
          show _ = _
          rw [overR, if_neg (by rw [hl.out]; exact hn), hp.out, if_neg (by simp), if_pos (by rw [hl'.out]; exact hm)]
        go_enter Try.func8, Try.ntmps8
        go_wp2_with fail
        refine (sub_Over _ _ _ _ _ _ _ _ _ h h' _ _ _ hr).mono ?_
        rintro e w1 ⟨rfl, hb1⟩
        have hk := h.keep (below_alloc (below_alloc hb1 (.cells #[.int .i64 2, .int .i64 (-1)] 24)) (.cells #[.int .i64 0, .int .i64 0] 24))
        go_wp2_with fail
        refine (wrong_any _ _ _ _ _ _ hk (by omega) (by omega) _ _ hp).mono ?_
        rintro e w2 ⟨rfl, k, rfl⟩
        go_wp2_with fail
        go_ret
        exact ⟨rfl, below_put2 (below_next (below_alloc (below_alloc hb1 _) _) (below_drewN _ _)) (by have := hb1.size; omega) _ _⟩
      · obtain ⟨s1, s2, hs⟩ : ∃ s1 s2, Hid (badF 120 [] ys = (s1, s2)) := ⟨_, _, rfl⟩
        have hs1 : 0 ≤ s1 ∧ s1 ≤ m := by
          have := badF_pos 120 ys []
          rw [hs.out, hl'.out] at this
          simpa using this
        by_cases hs2 : s2 = 0
        · subst hs2
          obtain ⟨q, hq⟩ : ∃ q, Hid (overF xs ys = q) := ⟨_, rfl⟩
          have hr : Hid (overR xs ys = (q, 0, 0)) := by
            show _ = _
            rw [overR, if_neg (by rw [hl.out]; exact hn), hp.out, if_neg (by simp), if_neg (by rw [hl'.out]; exact hm), hs.out, if_neg (by simp), hq.out]
          go_enter Try.func8, Try.ntmps8
          go_wp2_with fail
          refine (sub_Over _ _ _ _ _ _ _ _ _ h h' _ _ _ hr).mono ?_
          rintro e w1 ⟨rfl, hb1⟩
          have hk := h.keep (below_alloc (below_alloc hb1 (.cells #[.int .i64 0, .int .i64 0] 24)) (.cells #[.int .i64 0, .int .i64 0] 24))
          have hk' := h'.keep (below_alloc (below_alloc hb1 (.cells #[.int .i64 0, .int .i64 0] 24)) (.cells #[.int .i64 0, .int .i64 0] 24))
          have HB1 := Lib.hid hb1
          clear hb1
          go_wp2_with fail
          refine (wrong_any _ _ _ _ _ _ hk (by omega) (by omega) _ _ hp).mono ?_
          rintro e w2 ⟨rfl, k, rfl⟩
          go_wp2_with fail
          refine (wrong_any _ _ _ _ _ _ (hk'.drewN _) (by omega) (by omega) _ _ hs).mono ?_
          rintro e w3 ⟨rfl, k', rfl⟩
          rw [World.drewN_drewN]
          generalize k + k' = kk
          generalize hWW : ((w1.alloc (.cells #[.int .i64 0, .int .i64 0] 24)).alloc (.cells #[.int .i64 0, .int .i64 0] 24)).drewN kk = WW
          have a0 : WW.cell? ⟨w1.heap.size, 0, none⟩ = some (.int .i64 0) := by rw [← hWW]; simp [go_sem]
          have a1 : WW.cell? ⟨w1.heap.size, 1, none⟩ = some (.int .i64 0) := by rw [← hWW]; simp [go_sem]
          have b0 : WW.cell? ⟨w1.heap.size + 1, 0, none⟩ = some (.int .i64 0) := by rw [← hWW]; simp [go_sem]
          have b1 : WW.cell? ⟨w1.heap.size + 1, 1, none⟩ = some (.int .i64 0) := by rw [← hWW]; simp [go_sem]
          have l0 : w1.heap.size + 1 < WW.heap.size := by rw [← hWW]; simp
          have l1 : w1.heap.size < WW.heap.size := by omega
          have HBW : Hid (Below w.heap.size w WW) := by rw [← hWW]; exact below_next (below_alloc (below_alloc HB1.out _) _) (below_drewN _ _)
          have gk : Ints WW A n c xs := by rw [← hWW]; exact hk.drewN _
          have gk' : Ints WW B m d ys := by rw [← hWW]; exact hk'.drewN _
          clear hWW hk hk'
          go_wp2_with fail
          refine (sub_Over _ _ _ _ _ _ [2] [1, 2] _ (Ints.keep (ints_made _ 3 [2] (by simp) (by simp [I64]) (by decide)) (below_new _ _)) (ints_made _ 3 [1, 2] (by simp) (by simp [I64]) (by decide)) true 0 0 (by rfl)).mono ?_
          rintro e w4 ⟨rfl, hb4⟩
          have B4 := (below_box (below_box hb4).1).1
          have a0' := keepBox B4 a0
          have a1' := keepBox B4 a1
          have b0' := keepBox B4 b0
          have b1' := keepBox B4 b1
          have l4 := B4.size
          have l5 : w1.heap.size + 1 < w4.heap.size := by omega
          have l6 : w1.heap.size < w4.heap.size := by omega
          have gk4 := (gk.keep B4).keep (below_new w4 (.cells #[.int .i64 0, .int .i64 0] 24))
          have gk4' := (gk'.keep B4).keep (below_new w4 (.cells #[.int .i64 0, .int .i64 0] 24))
          have HB4 := Lib.hid (below_alloc (below_next HBW.out B4) (.cells #[.int .i64 0, .int .i64 0] 24))
          clear hb4 B4 l4 a0 a1 b0 b1 l0 l1 gk gk'
          go_wp2_with fail
          refine (over_ref _ _ _ _ _ _ _ _ _ gk4 gk4' _ hq).mono ?_
          rintro e w5 ⟨rfl, k5, rfl⟩
          have eq : (q == q) = true := by simp
          go_wp2_with fail
          go_ret
          exact ⟨rfl, below_next HB4.out (below_drewN _ _)⟩
        · have hr : Hid (overR xs ys = (false, s2, -1 - s1)) := by
            show _ = _
            rw [overR, if_neg (by rw [hl.out]; exact hn), hp.out, if_neg (by simp), if_neg (by rw [hl'.out]; exact hm), hs.out, if_pos hs2]
          have d3 : (s2 != 0) = true := by simpa using hs2
          go_enter Try.func8, Try.ntmps8
          go_wp2_with fail
          refine (sub_Over _ _ _ _ _ _ _ _ _ h h' _ _ _ hr).mono ?_
          rintro e w1 ⟨rfl, hb1⟩
          have hk := h.keep (below_alloc (below_alloc hb1 (.cells #[.int .i64 s2, .int .i64 (-1 - s1)] 24)) (.cells #[.int .i64 0, .int .i64 0] 24))
          have hk' := h'.keep (below_alloc (below_alloc hb1 (.cells #[.int .i64 s2, .int .i64 (-1 - s1)] 24)) (.cells #[.int .i64 0, .int .i64 0] 24))
          go_wp2_with fail
          refine (wrong_any _ _ _ _ _ _ hk (by omega) (by omega) _ _ hp).mono ?_
          rintro e w2 ⟨rfl, k, rfl⟩
          go_wp2_with fail
          refine (wrong_any _ _ _ _ _ _ (hk'.drewN _) (by omega) (by omega) _ _ hs).mono ?_
          rintro e w3 ⟨rfl, k', rfl⟩
          go_wp2_with fail
          go_ret
          exact ⟨rfl, below_put2 (below_next (below_alloc (below_alloc hb1 _) _) (below_drewN _ _)) (by have := hb1.size; omega) _ _⟩
    · have hr : Hid (overR xs ys = (false, p2, p1)) := by
        show _ = _
        rw [overR, if_neg (by rw [hl.out]; exact hn), hp.out, if_pos hp2]
      have d3 : (p2 != 0) = true := by simpa using hp2
      go_enter Try.func8, Try.ntmps8
      go_wp2_with fail
      refine (sub_Over _ _ _ _ _ _ _ _ _ h h' _ _ _ hr).mono ?_
      rintro e w1 ⟨rfl, hb1⟩
      have hk := h.keep (below_alloc (below_alloc hb1 (.cells #[.int .i64 p2, .int .i64 p1] 24)) (.cells #[.int .i64 0, .int .i64 0] 24))
      go_wp2_with fail
      refine (wrong_any _ _ _ _ _ _ hk (by omega) (by omega) _ _ hp).mono ?_
      rintro e w2 ⟨rfl, k, rfl⟩
      go_wp2_with fail
      go_ret
      exact ⟨rfl, below_put2 (below_next (below_alloc (below_alloc hb1 _) _) (below_drewN _ _)) (by have := hb1.size; omega) _ _⟩
end Go.Proofs.Ytehhhidjgngibaa
