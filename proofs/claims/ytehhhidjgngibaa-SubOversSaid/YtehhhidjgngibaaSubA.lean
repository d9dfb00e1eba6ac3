/- Contracts of sub.over, sub.Over; of the reference's Over. -/
import Derived.Test.YtehhhidjgngibaaCnfA
import Derived.Test.YtehhhidjgngibaaClean
namespace Go.Proofs.Ytehhhidjgngibaa
open Go.RowKit

theorem over_lit (x : Int) (B : Nat) (W : World) (A : Option Addr) (n c : Nat) (ys : List Int) (hc : W.cell? ⟨B, 0, none⟩ = some (.slice A n c)) (h : Ints W A n c ys) :
    Calls Try.prog 55 #[.int .i64 x, .pointer (some ⟨B, 0, none⟩)] W (RetQ (.bool (!hasB ys x)) W) := by
  obtain ⟨r, hr⟩ : ∃ r, Hid (hasB ys x = r) := ⟨_, rfl⟩
  rw [hr.out]
  go_enter Try.func55, Try.ntmps55
  go_wp2_with fail
  refine (contains_ints _ _ _ _ _ _ h _ hr).mono ?_
  rintro e w1 ⟨rfl, m, rfl⟩
  go_wp2_with fail
  go_ret
  exact RetQ.of _ rfl
theorem enters_over : Enters Try.prog 55 := enters_of Try.func55 (by kernel_rfl) rfl
theorem any_not_over (a b : List Int) : a.any (fun x => !hasB b x) = !overF a b := by
  unfold overF
  rw [List.any_eq_not_all_not]
  simp

set_option maxHeartbeats 400000 in
theorem sub_over (A B : Option Addr) (n c m d : Nat) (xs ys : List Int) (w : World) (h : Ints w A n c xs) (h' : Ints w B m d ys) (r : Bool) (hr : Hid ((decide (xs.length ≤ ys.length) && overF xs ys) = r)) :
    Calls Try.prog 43 #[.slice A n c, .slice B m d] w (RetV (.bool r) w) := by
  have hbd := h.bd
  have hbd' := h'.bd
  have hl := h.len
  have hl' := h'.len
  by_cases hnm : n ≤ m
  · have hr' : Hid (xs.any (fun x => !hasB ys x) = !r) := by
      rw [any_not_over, ← hr.out, hl, hl']; simp [hnm, Hid]
    clear hl hl'
    have hk := h.keep (below_new w (.cells #[.slice B m d] 22))
    have hk' := h'.keep (below_new w (.cells #[.slice B m d] 22))
    have HP : Hid (Pred 55 #[.pointer (some ⟨w.heap.size, 0, none⟩)] xs (fun x => !hasB ys x) (w.alloc (.cells #[.slice B m d] 22))) := by
      intro W x hW hx
      exact (over_lit x w.heap.size W B m d ys (keepBox hW (by simp [go_sem])) (hk'.keep hW)).mono fun _ _ hh => hh.v
    go_enter Try.func43, Try.ntmps43
    go_wp2_with fail
    refine (containsFunc_ints _ _ _ _ _ hk _ _ enters_over _ HP.out _ hr').mono ?_
    rintro e w1 ⟨rfl, hb1⟩
    have HB := Lib.hid (below_box hb1).1
    clear hb1
    cases r
    all_goals
      go_wp2_with fail
      go_ret
      exact ⟨rfl, HB.out⟩
  · have : false = r := by rw [← hr.out, hl, hl']; simp [hnm]
    subst this
    have d1 : ¬ (n : Int) ≤ (m : Int) := by omega
    clear hl hl'
    go_enter Try.func43, Try.ntmps43
    go_wp2_with fail
    go_ret
    exact ⟨rfl, below_new _ _⟩

set_option maxHeartbeats 400000 in
theorem over_ref (A B : Option Addr) (n c m d : Nat) (xs ys : List Int) (w : World) (h : Ints w A n c xs) (h' : Ints w B m d ys) (r : Bool) (hr : Hid (overF xs ys = r)) :
    Calls Try.prog 25 #[.slice A n c, .slice B m d] w (RetQ (.bool r) w) := by
  have hbd := h.bd
  have hlen := Lib.hid h.len
  go_enter Try.func25, Try.ntmps25
  go_wp2_with fail
  go_loopw [5] (fun i wr => ∃ k : Nat, k ≤ n ∧ i = .int .i64 k ∧ Hid (overF (xs.drop k) ys = r) ∧ Hid (∃ m, wr = w.drewN m)) (fun i _ => n - (intOf i).toNat)
  case atStart => exact ⟨0, Nat.zero_le _, rfl, hr.out, ⟨0, rfl⟩⟩
  case round =>
    obtain ⟨k, hk, rfl, hn, hB⟩ := hrel
    have hx : Ints wr A n c xs := by obtain ⟨m, rfl⟩ := hB.out; exact h.drewN m
    have hx' : Ints wr B m d ys := by obtain ⟨m, rfl⟩ := hB.out; exact h'.drewN m
    by_cases hlt : k < n
    · obtain ⟨b, off, y, rfl, hb, hcell, y1, y2, hy⟩ := hx.round hlt
      obtain ⟨q, hq⟩ : ∃ q, Hid (hasB ys y = q) := ⟨_, rfl⟩
      have hn2 : Hid ((q && overF (xs.drop (k + 1)) ys) = r) := by
        have := hn.out
        rw [drop_cons_of hy.out, overF, List.all_cons, hq.out] at this
        exact this
      go_wp2_with fail
      refine (has_any _ _ _ _ _ _ hx' _ hq).mono ?_
      rintro e w1 ⟨rfl, m1, rfl⟩
      cases q
      · have : false = r := by rw [← hn2.out]; rfl
        subst this
        go_wp2_with fail
        go_ret
        obtain ⟨m2, rfl⟩ := hB.out
        rw [World.drewN_drewN]
        exact RetQ.of _ rfl
      · go_wp2_with fail
        go_roundw
        case rel => exact ⟨k + 1, by omega, by go_num, by have := hn2.out; simp at this; exact this, by obtain ⟨m, rfl⟩ := hB.out; exact ⟨_, World.drewN_drewN _ _ _⟩⟩
        case measure => simp [intOf]; omega
    · have : true = r := by rw [← hn.out, List.drop_of_length_le (by have := hlen.out; omega)]; rfl
      subst this
      go_wp2_with fail
      go_ret
      obtain ⟨m2, rfl⟩ := hB.out
      exact RetQ.of _ rfl

set_option maxHeartbeats 1000000 in
theorem sub_Over (A B : Option Addr) (n c m d : Nat) (xs ys : List Int) (w : World) (h : Ints w A n c xs) (h' : Ints w B m d ys) (rb : Bool) (r1 r2 : Int) (hr : Hid (overR xs ys = (rb, r1, r2))) :
    Calls Try.prog 23 #[.slice A n c, .slice B m d] w (RetV (.tuple #[.bool rb, .agg #[.int .i64 r1, .int .i64 r2]]) w) := by
  have hbd := h.bd
  have hbd' := h'.bd
  have hl := Lib.hid h.len
  have hl' := Lib.hid h'.len
  by_cases hn : 120 < n
  · have : (rb, r1, r2) = (false, 2, 0) := by rw [← hr.out, overR, if_pos (by rw [hl.out]; exact hn)]
    cases this
    go_enter Try.func23, Try.ntmps23
    go_wp2_with fail
    exact bodyPost_ret (v := .tuple #[.bool false, .agg #[.int .i64 2, .int .i64 0]]) (by simp [results, Try.results23, go_sem]) rfl ⟨rfl, below_new _ _⟩
  · obtain ⟨p1, p2, hp⟩ : ∃ p1 p2, Hid (badF 120 [] xs = (p1, p2)) := ⟨_, _, rfl⟩
    have hr2 : Hid ((if p2 ≠ 0 then (false, p2, p1) else if 120 < m then (false, 2, -1) else if (badF 120 [] ys).2 ≠ 0 then (false, (badF 120 [] ys).2, -1 - (badF 120 [] ys).1) else (overF xs ys, 0, 0)) = (rb, r1, r2)) := by
      have := hr.out
      rw [overR, if_neg (by rw [hl.out]; exact hn), hp.out, hl'.out] at this
      exact this
    clear hr
    have hk := h.keep (below_new w (.cells #[.int .i64 0, .int .i64 0] 24))
    have hk' := h'.keep (below_new w (.cells #[.int .i64 0, .int .i64 0] 24))
    go_enter Try.func23, Try.ntmps23
    go_wp2_with fail
    refine (bad_any _ _ _ _ _ _ hk (by omega) (by omega) _ _ hp).mono ?_
    rintro e w1 ⟨rfl, hb1⟩
    have hK := (Blk.new w 24 #[.int .i64 0, .int .i64 0]).keep hb1
    have e0 := hK.cell 0
    have e1 := hK.cell 1
    have f0 := hK.frozen 0
    have f1 := hK.frozen 1
    simp at e0 e1
    have HK := Lib.hid hK
    have HB := Lib.hid (below_box hb1).1
    have hk1 := hk.keep hb1
    have hk1' := hk'.keep hb1
    clear hb1 hK
    by_cases hp2 : p2 = 0
    · subst hp2
      by_cases hm : 120 < m
      · have : (rb, r1, r2) = (false, 2, -1) := by rw [← hr2.out, if_neg (by simp), if_pos hm]
        cases this
        obtain ⟨q0, q1⟩ := HK.out.put2 (.int .i64 2) (.int .i64 (-1))
        have Q0 := Lib.hid q0
        have Q1 := Lib.hid q1
        have BF := Lib.hid (below_put2 HB.out (g := w.heap.size) (by omega) (.int .i64 2) (.int .i64 (-1)))
        clear q0 q1
        go_wp2_with fail
        exact bodyPost_ret (v := .tuple #[.bool false, .agg #[.int .i64 2, .int .i64 (-1)]]) (by simp [results, Try.results23, go_sem, Q0.out, Q1.out]) rfl ⟨rfl, BF.out⟩
      · obtain ⟨s1, s2, hs⟩ : ∃ s1 s2, Hid (badF 120 [] ys = (s1, s2)) := ⟨_, _, rfl⟩
        have hr3 : Hid ((if s2 ≠ 0 then (false, s2, -1 - s1) else (overF xs ys, 0, 0)) = (rb, r1, r2)) := by
          have := hr2.out
          rw [if_neg (by simp), if_neg hm, hs.out] at this
          exact this
        have hs1 : 0 ≤ s1 ∧ s1 ≤ m := by
          have := badF_pos 120 ys []
          rw [hs.out, hl'.out] at this
          simpa using this
        clear hr2
        go_wp2_with fail
        refine (bad_any _ _ _ _ _ _ hk1' (by omega) (by omega) _ _ hs).mono ?_
        rintro e w2 ⟨rfl, hb2⟩
        have HK2 := Lib.hid (HK.out.keep hb2)
        have HB2 := Lib.hid (below_next HB.out hb2)
        have hk2 := hk1.keep hb2
        have hk2' := hk1'.keep hb2
        clear hb2
        have g0 := HK2.out.cell 0
        have g1 := HK2.out.cell 1
        have u0 := HK2.out.frozen 0
        have u1 := HK2.out.frozen 1
        simp at g0 g1
        by_cases hs2 : s2 = 0
        · subst hs2
          have hov : (overF xs ys, (0 : Int), (0 : Int)) = (rb, r1, r2) := by rw [← hr3.out, if_neg (by simp)]
          obtain ⟨h1, h2, h3⟩ : overF xs ys = rb ∧ (0 : Int) = r1 ∧ (0 : Int) = r2 := by simpa using hov
          subst h2 h3
          have hor : Hid ((decide (xs.length ≤ ys.length) && overF xs ys) = rb) := by
            rw [overF_len (badF_lits (by rw [hp.out])).2.nodup]; exact h1
          clear hov h1
          go_wp2_with fail
          refine (sub_over _ _ _ _ _ _ _ _ _ hk2 hk2' _ hor).mono ?_
          rintro e w3 ⟨rfl, hb3⟩
          have HK3 := Lib.hid (HK2.out.keep hb3)
          have HB3 := Lib.hid (below_next HB2.out hb3)
          have t0 := HK3.out.cell 0
          have t1 := HK3.out.cell 1
          have t2 := HK3.out.frozen 0
          have t3 := HK3.out.frozen 1
          simp at t0 t1
          obtain ⟨q0, q1⟩ := HK3.out.put2 (.int .i64 0) (.int .i64 0)
          have Q0 := Lib.hid q0
          have Q1 := Lib.hid q1
          have BF := Lib.hid (below_put2 HB3.out (g := w.heap.size) (by omega) (.int .i64 0) (.int .i64 0))
          clear q0 q1 hb3
          go_wp2_with fail
          exact bodyPost_ret (v := .tuple #[.bool rb, .agg #[.int .i64 0, .int .i64 0]]) (by simp [results, Try.results23, go_sem, Q0.out, Q1.out]) rfl ⟨rfl, BF.out⟩
        · have : (false, s2, -1 - s1) = (rb, r1, r2) := by rw [← hr3.out, if_pos hs2]
          obtain ⟨h1, h2, h3⟩ : false = rb ∧ s2 = r1 ∧ -1 - s1 = r2 := by simpa using this
          subst h1 h2 h3
          have d3 : (s2 != 0) = true := by simpa using hs2
          obtain ⟨q0, q1⟩ := HK2.out.put2 (.int .i64 s2) (.int .i64 (-1 - s1))
          have Q0 := Lib.hid q0
          have Q1 := Lib.hid q1
          have BF := Lib.hid (below_put2 HB2.out (g := w.heap.size) (by omega) (.int .i64 s2) (.int .i64 (-1 - s1)))
          clear q0 q1 this
          go_wp2_with fail
          exact bodyPost_ret (v := .tuple #[.bool false, .agg #[.int .i64 s2, .int .i64 (-1 - s1)]]) (by simp [results, Try.results23, go_sem, Q0.out, Q1.out]) rfl ⟨rfl, BF.out⟩
    · have : (false, p2, p1) = (rb, r1, r2) := by rw [← hr2.out, if_pos hp2]
      obtain ⟨h1, h2, h3⟩ : false = rb ∧ p2 = r1 ∧ p1 = r2 := by simpa using this
      subst h1 h2 h3
      have d3 : (p2 != 0) = true := by simpa using hp2
      obtain ⟨q0, q1⟩ := HK.out.put2 (.int .i64 p2) (.int .i64 p1)
      have Q0 := Lib.hid q0
      have Q1 := Lib.hid q1
      have BF := Lib.hid (below_put2 HB.out (g := w.heap.size) (by omega) (.int .i64 p2) (.int .i64 p1))
      clear q0 q1 this
      go_wp2_with fail
      exact bodyPost_ret (v := .tuple #[.bool false, .agg #[.int .i64 p2, .int .i64 p1]]) (by simp [results, Try.results23, go_sem, Q0.out, Q1.out]) rfl ⟨rfl, BF.out⟩
end Go.Proofs.Ytehhhidjgngibaa
