/- Contracts of small functions of the laws of the whole: Picked, At, Var, options. -/
import Derived.Test.YtlfgcblijfflfaaGreatSatPlain
import Derived.Test.YtlfgcblijfflfaaGreatSlices
import Derived.Test.YtlfgcblijfflfaaGreatBoxes
namespace Go.Proofs.YtlfgcblijfflfaaGreat
open Go.RowKit
set_option linter.unusedSimpArgs false

/-- A number from 0 on, below n. -/
def pickF (a n : Int) : Int := if a.tmod n < 0 then a.tmod n + n else a.tmod n
theorem pickF_range (a : Int) {n : Int} (hn : 0 < n) : 0 ≤ pickF a n ∧ pickF a n < n := by
  unfold pickF
  have h1 := Int.tmod_lt_of_pos a hn
  have h2 : -n < a.tmod n := by
    have h3 := Int.tmod_lt_of_pos (-a) hn
    rw [Int.neg_tmod] at h3
    omega
  split <;> omega
theorem tmod_small (a : Int) {n : Int} (hn : 0 < n) (hn2 : n ≤ 1000000) : -1000000 < a.tmod n ∧ a.tmod n < 1000000 := by
  have h1 := Int.tmod_lt_of_pos a hn
  have h3 := Int.tmod_lt_of_pos (-a) hn
  rw [Int.neg_tmod] at h3
  omega
theorem picked_any (a n : Int) (w : World) (ha : I64 a) (hn : 0 < n) (hn2 : n ≤ 1000000) (r : Int) (hr : Hid (pickF a n = r)) :
    Calls Tryz.prog 11 #[.int .i64 a, .int .i64 n] w (RetQ (.int .i64 r) w) := by
  have hs := tmod_small a hn hn2
  obtain ⟨m, hm⟩ : ∃ m, Hid (a.tmod n = m) := ⟨_, rfl⟩
  rw [hm.out] at hs
  have hr2 : Hid ((if m < 0 then m + n else m) = r) := by have := hr.out; unfold pickF at this; rw [hm.out] at this; exact this
  have hn0 : ¬ n = 0 := by omega
  have dn : (n == 0) = false := by rw [beq_eq_false_iff_ne]; omega
  obtain ⟨a1, a2⟩ := ha
  have HM := hm.out
  by_cases h0 : m < 0
  · have d0 : decide (m < 0) = true := decide_eq_true h0
    obtain rfl : m + n = r := by have := hr2.out; rw [if_pos h0] at this; exact this
    clear hr hr2 hm
    go_enter Tryz.func11, Tryz.ntmps11
    go_wp2_with fail
    go_ret
    exact RetQ.of0 (by first | rfl | simp [HM])
  · have d0 : decide (m < 0) = false := decide_eq_false h0
    obtain rfl : m = r := by have := hr2.out; rw [if_neg h0] at this; exact this
    clear hr hr2 hm
    go_enter Tryz.func11, Tryz.ntmps11
    go_wp2_with fail
    go_ret
    exact RetQ.of0 (by first | rfl | simp [HM])
theorem kvar_any (x : Int) (w : World) (h1 : -9223372036854775807 ≤ x) (h2 : x ≤ 9223372036854775807) : Calls Tryz.prog 54 #[.int .i64 x] w (RetQ (.int .i64 x.natAbs) w) := by
  by_cases h0 : x < 0
  · have d0 : decide (x < 0) = true := decide_eq_true h0
    go_enter Tryz.func54, Tryz.ntmps54
    go_wp2_with fail
    go_ret
    exact RetQ.of0 (by show Value.int _ _ = Value.int _ _; congr 1; omega)
  · have d0 : decide (x < 0) = false := decide_eq_false h0
    go_enter Tryz.func54, Tryz.ntmps54
    go_wp2_with fail
    go_ret
    exact RetQ.of0 (by show Value.int _ _ = Value.int _ _; congr 1; omega)
/-- A raw number of a list; 0 behind it. -/
theorem kat_any (A : Option Addr) (n c : Nat) (xs : List Int) (i : Nat) (w : World) (h : Ints w A n c xs) (hi : i ≤ 1000000) (r : Int) (hr : Hid (xs.getD i 0 = r)) :
    Calls Tryz.prog 17 #[.slice A n c, .int .i64 i] w (RetQ (.int .i64 r) w) := by
  have hbd := h.bd
  have y1 : (0 : Int) ≤ (i : Int) := by omega
  by_cases hin : i < n
  · have y2 : (i : Int) < (n : Int) := by omega
    obtain ⟨b, off, x, hAe, hb, hcell, x1, x2, hxk⟩ := h.round hin
    obtain rfl : x = r := by have := hr.out; rw [List.getD_eq_getElem?_getD, hxk.out] at this; exact this
    subst hAe
    clear h hr
    go_enter Tryz.func17, Tryz.ntmps17
    go_wp2_with fail
    go_ret
    exact RetQ.of0 rfl
  · have y2 : ¬ (i : Int) < (n : Int) := by omega
    obtain rfl : 0 = r := by have := hr.out; rw [List.getD_eq_getElem?_getD, List.getElem?_eq_none (by rw [h.len]; omega)] at this; exact this
    clear h hr
    go_enter Tryz.func17, Tryz.ntmps17
    go_wp2_with fail
    go_ret
    exact RetQ.of0 rfl
/-- Options of a number: all in range. -/
def RetOpts (w : World) (e : Ending) (w' : World) : Prop :=
  ∃ s r k p : Int, e = .returned (.agg #[.int .i64 s, .int .i64 r, .int .i64 k, .int .i64 p]) ∧ (0 ≤ s ∧ s ≤ 1000) ∧ (0 ≤ r ∧ r ≤ 1000000) ∧ (0 ≤ k ∧ k ≤ 1000000) ∧ (0 ≤ p ∧ p ≤ 2) ∧ Below w.heap.size w w'
theorem tdiv_i64 {a b : Int} (ha : I64 a) (hb : 0 < b) : I64 (a.tdiv b) := by
  have h := Int.natAbs_tdiv a b
  have h2 : a.natAbs.div b.natAbs ≤ a.natAbs := Nat.div_le_self a.natAbs b.natAbs
  rw [← h] at h2
  have h3 : 0 ≤ a → 0 ≤ a.tdiv b := fun h0 => Int.tdiv_nonneg h0 (by omega)
  have h4 : 0 ≤ -a → 0 ≤ (-a).tdiv b := fun h0 => Int.tdiv_nonneg h0 (by omega)
  rw [Int.neg_tdiv] at h4
  unfold I64 at *
  by_cases h0 : 0 ≤ a
  · have := h3 h0; omega
  · have := h4 (by omega); omega
set_option maxHeartbeats 2000000 in
theorem optionsOf_any (n : Int) (w : World) (hn : I64 n) : Calls Tryz.prog 16 #[.int .i64 n] w (RetOpts w) := by
  have HN := Lib.hid hn
  have H7 : Hid (I64 (n.tdiv 7)) := tdiv_i64 hn (by omega)
  have H28 : Hid (I64 (n.tdiv 28)) := tdiv_i64 hn (by omega)
  have H84 : Hid (I64 (n.tdiv 84)) := tdiv_i64 hn (by omega)
  obtain ⟨s, hs⟩ : ∃ s, Hid (pickF n 1001 = s) := ⟨_, rfl⟩
  obtain ⟨r, hr⟩ : ∃ r, Hid (pickF (n.tdiv 7) 4 = r) := ⟨_, rfl⟩
  obtain ⟨k, hk⟩ : ∃ k, Hid (pickF (n.tdiv 28) 3 = k) := ⟨_, rfl⟩
  obtain ⟨p, hp⟩ : ∃ p, Hid (pickF (n.tdiv 84) 3 = p) := ⟨_, rfl⟩
  have rs := pickF_range n (n := 1001) (by omega)
  have rr := pickF_range (n.tdiv 7) (n := 4) (by omega)
  have rk := pickF_range (n.tdiv 28) (n := 3) (by omega)
  have rp := pickF_range (n.tdiv 84) (n := 3) (by omega)
  rw [hs.out] at rs
  rw [hr.out] at rr
  rw [hk.out] at rk
  rw [hp.out] at rp
  obtain ⟨n1, n2⟩ := hn
  go_enter Tryz.func16, Tryz.ntmps16
  go_wp2_with fail
  obtain ⟨W1, hW1⟩ : ∃ z : World, z = w.alloc (.cells #[.int .i64 0, .int .i64 0, .int .i64 0, .int .i64 0] 50) := ⟨_, rfl⟩
  have K1 : Hid (Blk W1 w.heap.size 50 #[.int .i64 0, .int .i64 0, .int .i64 0, .int .i64 0]) := by rw [hW1]; exact Blk.new _ _ _
  have B1 : Hid (Below w.heap.size w W1) := by rw [hW1]; exact below_new _ _
  rw [← hW1]
  clear hW1
  refine (picked_any n 1001 W1 HN.out (by omega) (by omega) s hs).mono ?_
  rintro e W2 ⟨rfl, m2, hm2⟩
  have hb2 : Below W1.heap.size W1 W2 := by rw [hm2]; exact below_drewN _ _
  have K2 := Lib.hid (K1.out.keep hb2)
  have B2 := Lib.hid (below_next B1.out hb2)
  clear hm2 hb2 K1 B1
  go_wp2_with fail
  refine (picked_any (n.tdiv 7) 4 W2 H7.out (by omega) (by omega) r hr).mono ?_
  rintro e W3 ⟨rfl, m3, hm3⟩
  have hb3 : Below W2.heap.size W2 W3 := by rw [hm3]; exact below_drewN _ _
  have K3 := Lib.hid (K2.out.keep hb3)
  have B3 := Lib.hid (below_next B2.out hb3)
  clear hm3 hb3 K2 B2
  go_wp2_with fail
  refine (picked_any (n.tdiv 28) 3 W3 H28.out (by omega) (by omega) k hk).mono ?_
  rintro e W4 ⟨rfl, m4, hm4⟩
  have hb4 : Below W3.heap.size W3 W4 := by rw [hm4]; exact below_drewN _ _
  have K4 := Lib.hid (K3.out.keep hb4)
  have B4 := Lib.hid (below_next B3.out hb4)
  clear hm4 hb4 K3 B3
  go_wp2_with fail
  refine (picked_any (n.tdiv 84) 3 W4 H84.out (by omega) (by omega) p hp).mono ?_
  rintro e W5 ⟨rfl, m5, hm5⟩
  have hb5 : Below W4.heap.size W4 W5 := by rw [hm5]; exact below_drewN _ _
  have K5 := Lib.hid (K4.out.keep hb5)
  have B5 := Lib.hid (below_next B4.out hb5)
  clear hm5 hb5 K4 B4
  have c0 := K5.out.cell 0
  have c1 := K5.out.cell 1
  have c2 := K5.out.cell 2
  have c3 := K5.out.cell 3
  simp at c0 c1 c2 c3
  have f0 := K5.out.frozen 0
  have f1 := K5.out.frozen 1
  have f2 := K5.out.frozen 2
  have f3 := K5.out.frozen 3
  have lt5 := K5.out.lt
  go_wp2_with fail
  obtain ⟨wf, hwf⟩ : ∃ z : World, z = (((W5.setCell ⟨w.heap.size, 0, none⟩ (.int .i64 s)).setCell ⟨w.heap.size, 1, none⟩ (.int .i64 r)).setCell ⟨w.heap.size, 2, none⟩ (.int .i64 (k * 5))).setCell ⟨w.heap.size, 3, none⟩ (.int .i64 p) := ⟨_, rfl⟩
  have KZ : Hid (Blk wf w.heap.size 50 #[.int .i64 s, .int .i64 r, .int .i64 (k * 5), .int .i64 p]) := by
    rw [hwf]
    have := (((K5.out.set_ 0 (.int .i64 s)).set_ 1 (.int .i64 r)).set_ 2 (.int .i64 (k * 5))).set_ 3 (.int .i64 p)
    simpa [Hid] using this
  have HBZ : Hid (Below w.heap.size w wf) := by
    rw [hwf]
    exact (((B5.out.setCell (p := ⟨w.heap.size, 0, none⟩) (Nat.le_refl _) _).setCell (p := ⟨w.heap.size, 1, none⟩) (Nat.le_refl _) _).setCell (p := ⟨w.heap.size, 2, none⟩) (Nat.le_refl _) _).setCell (p := ⟨w.heap.size, 3, none⟩) (Nat.le_refl _) _
  have z0 := KZ.out.cell 0
  have z1 := KZ.out.cell 1
  have z2 := KZ.out.cell 2
  have z3 := KZ.out.cell 3
  simp at z0 z1 z2 z3
  rw [← hwf]
  exact bodyPost_ret (v := .agg #[.int .i64 s, .int .i64 r, .int .i64 (k * 5), .int .i64 p]) (by simp [results, Tryz.results16, go_sem, z0, z1, z2, z3]) rfl ⟨s, r, k * 5, p, rfl, by omega, by omega, by omega, by omega, HBZ.out⟩
end Go.Proofs.YtlfgcblijfflfaaGreat
