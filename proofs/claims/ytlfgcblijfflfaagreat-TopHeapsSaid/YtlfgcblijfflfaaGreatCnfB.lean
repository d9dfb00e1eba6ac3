/- Contracts of cnf.Check and of the reference's Check: each tells what is wrong with clauses. -/
import Derived.Test.YtlfgcblijfflfaaGreatCnfA
namespace Go.Proofs.YtlfgcblijfflfaaGreat
open Go.RowKit

set_option maxHeartbeats 1000000 in
theorem check_own (A : Option Addr) (n c : Nat) (xss : List (List Int)) (vars : Int) (w : World) (h : Grid w A n c xss) (hv : I64 vars) (r1 r2 : Int) (hr : Hid (checkC vars xss = (r1, r2))) :
    Calls Tryz.prog 55 #[.agg #[.int .i64 vars, .slice A n c]] w (RetV (.agg #[.int .i64 r1, .int .i64 r2]) w) := by
  have hbd := h.bd
  have hlen := Lib.hid h.len
  unfold I64 at hv
  by_cases hv0 : vars < 0 ∨ 120 < vars
  · have : (r1, r2) = (3, 0) := by rw [← hr.out, checkC, if_pos hv0]
    cases this
    rcases Decidable.em (vars < 0) with hz | hz
    · clear hv0
      go_enter Tryz.func55, Tryz.ntmps55
      go_wp2_with fail
      exact bodyPost_ret (v := .agg #[.int .i64 3, .int .i64 0]) (by simp [results, Tryz.results55, go_sem]) rfl ⟨rfl, below_alloc (below_new _ _) _⟩
    · have hz2 : 120 < vars := by omega
      clear hv0
      go_enter Tryz.func55, Tryz.ntmps55
      go_wp2_with fail
      exact bodyPost_ret (v := .agg #[.int .i64 3, .int .i64 0]) (by simp [results, Tryz.results55, go_sem]) rfl ⟨rfl, below_alloc (below_new _ _) _⟩
  · have v0 : ¬ vars < 0 := by omega
    have v1 : ¬ 120 < vars := by omega
    have d0 : decide (vars < 0) = false := by simpa using v0
    have d1 : decide (120 < vars) = false := by simpa using v1
    by_cases hn : 400 < n
    · have : (r1, r2) = (2, 0) := by rw [← hr.out, checkC, if_neg hv0, if_pos (by rw [hlen.out]; exact hn)]
      cases this
      clear hv0
      go_enter Tryz.func55, Tryz.ntmps55
      go_wp2_with fail
      exact bodyPost_ret (v := .agg #[.int .i64 2, .int .i64 0]) (by simp [results, Tryz.results55, go_sem]) rfl ⟨rfl, below_alloc (below_new _ _) _⟩
    · have hr' : Hid (checkRows vars xss 0 = (r1, r2)) := by have := hr.out; rw [checkC, if_neg hv0, if_neg (by rw [hlen.out]; exact hn)] at this; exact this
      have d2 : decide ((400 : Int) < (n : Int)) = false := by simp; omega
      clear hv0 hr
      go_enter Tryz.func55, Tryz.ntmps55
      go_wp2_with fail
      go_loopw [26] (fun i wr => ∃ k : Nat, k ≤ n ∧ i = .int .i64 k ∧ Hid (checkRows vars (xss.drop k) k = (r1, r2)) ∧ Hid (Below ((w.alloc (.cells #[.int .i64 vars, .slice A n c] 25)).alloc (.cells #[.int .i64 0, .int .i64 0] 28)).heap.size ((w.alloc (.cells #[.int .i64 vars, .slice A n c] 25)).alloc (.cells #[.int .i64 0, .int .i64 0] 28)) wr)) (fun i _ => n - (intOf i).toNat)
      case atStart => exact ⟨0, Nat.zero_le _, rfl, hr'.out, Below.refl _ _⟩
      case round =>
        obtain ⟨k, hk, rfl, hg, HW⟩ := hrel
        obtain ⟨hK1, hK2, B1, l1⟩ := two_blks HW.out
        have HB := Lib.hid B1
        clear B1
        have hx := h.keep HB.out
        have c0 := hK1.cell 0
        have c1 := hK1.cell 1
        have e0 := hK2.cell 0
        have e1 := hK2.cell 1
        have f0 := hK2.frozen 0
        have f1 := hK2.frozen 1
        simp at c0 c1 e0 e1
        have HK2 := Lib.hid hK2
        clear hK1 hK2
        by_cases hlt : k < n
        · obtain ⟨b, off, A', n', c', xs, eA, hb, hcell, hi, hy⟩ := hx.round hlt
          subst eA
          have hbd' := hi.bd
          have hl' := Lib.hid hi.len
          have z4 : (k : Int) < (n : Int) := by omega
          have z5 : (0 : Int) ≤ (k : Int) := by omega
          by_cases h24 : 24 < n'
          · have : (r1, r2) = (2, (k : Int)) := by rw [← hg.out, drop_cons_of hy.out, checkRows, if_pos (by rw [hl'.out]; exact h24)]
            cases this
            obtain ⟨q0, q1⟩ := HK2.out.put2 (.int .i64 2) (.int .i64 k)
            have Q0 := Lib.hid q0
            have Q1 := Lib.hid q1
            have BF := Lib.hid (below_put2 HB.out (g := w.heap.size + 1) (by omega) (.int .i64 2) (.int .i64 k))
            clear q0 q1
            go_wp2_with fail
            exact bodyPost_ret (v := .agg #[.int .i64 2, .int .i64 k]) (by simp [results, Tryz.results55, go_sem, Q0.out, Q1.out]) rfl ⟨rfl, BF.out⟩
          · obtain ⟨p1, p2, hp⟩ : ∃ p1 p2, Hid (badF vars [] xs = (p1, p2)) := ⟨_, _, rfl⟩
            have hg2 : Hid ((if p2 ≠ 0 then (p2, (k : Int)) else checkRows vars (xss.drop (k + 1)) (k + 1)) = (r1, r2)) := by
              have := hg.out
              rw [drop_cons_of hy.out, checkRows, if_neg (by rw [hl'.out]; exact h24), hp.out] at this
              exact this
            go_wp2_with fail
            refine (bad_any _ _ _ _ _ _ hi (by omega) (by omega) _ _ hp).mono ?_
            rintro e w1 ⟨rfl, hb1⟩
            have HW1 := Lib.hid (below_next HW.out hb1)
            have HB3 := Lib.hid (below_next HB.out hb1)
            have HK3 := Lib.hid (HK2.out.keep hb1)
            clear hb1
            by_cases hp2 : p2 = 0
            · subst hp2
              go_wp2_with fail
              go_roundw
              case rel => exact ⟨k + 1, by omega, by go_num, by have := hg2.out; simp at this; exact this, HW1⟩
              case measure => simp [intOf]; omega
            · have d3 : (p2 != 0) = true := by simpa using hp2
              have : (p2, (k : Int)) = (r1, r2) := by rw [← hg2.out, if_pos hp2]
              obtain ⟨h1, h2⟩ := Prod.mk.inj this
              subst h1 h2
              obtain ⟨q0, q1⟩ := (HK3.out).put2 (.int .i64 p2) (.int .i64 k)
              have Q0 := Lib.hid q0
              have Q1 := Lib.hid q1
              have BF := Lib.hid (below_put2 HB3.out (g := w.heap.size + 1) (by omega) (.int .i64 p2) (.int .i64 k))
              have E0 := HK3.out.cell 0
              have E1 := HK3.out.cell 1
              have F0 := HK3.out.frozen 0
              have F1 := HK3.out.frozen 1
              simp at E0 E1
              clear q0 q1
              go_wp2_with fail
              exact bodyPost_ret (v := .agg #[.int .i64 p2, .int .i64 k]) (by simp [results, Tryz.results55, go_sem, Q0.out, Q1.out]) rfl ⟨rfl, BF.out⟩
        · have : (r1, r2) = (0, 0) := by rw [← hg.out, List.drop_of_length_le (by have := hlen.out; omega), checkRows]
          cases this
          obtain ⟨q0, q1⟩ := HK2.out.put2 (.int .i64 0) (.int .i64 0)
          have Q0 := Lib.hid q0
          have Q1 := Lib.hid q1
          have BF := Lib.hid (below_put2 HB.out (g := w.heap.size + 1) (by omega) (.int .i64 0) (.int .i64 0))
          clear q0 q1
          go_wp2_with fail
          exact bodyPost_ret (v := .agg #[.int .i64 0, .int .i64 0]) (by simp [results, Tryz.results55, go_sem, Q0.out, Q1.out]) rfl ⟨rfl, BF.out⟩

end Go.Proofs.YtlfgcblijfflfaaGreat
