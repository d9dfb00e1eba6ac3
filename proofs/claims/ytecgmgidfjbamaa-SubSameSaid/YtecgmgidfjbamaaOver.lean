/- Contracts of sub.over, sub.Over; of the reference's Over. -/
import Derived.Test.YtecgmgidfjbamaaCnfA
import Derived.Test.YtecgmgidfjbamaaClean
namespace Go.Proofs.Ytecgmgidfjbamaa
open Go.RowKit

theorem over_lit (x : Int) (B : Nat) (W : World) (A : Option Addr) (n c : Nat) (ys : List Int) (hc : W.cell? ⟨B, 0, none⟩ = some (.slice A n c)) (h : Ints W A n c ys) :
    Calls Try.prog 107 #[.int .i64 x, .pointer (some ⟨B, 0, none⟩)] W (RetQ (.bool (!hasB ys x)) W) := by
  obtain ⟨r, hr⟩ : ∃ r, Hid (hasB ys x = r) := ⟨_, rfl⟩
  rw [hr.out]
  go_enter Try.func107, Try.ntmps107
  go_wp2_with fail
  refine (contains_ints _ _ _ _ _ _ h _ hr).mono ?_
  rintro e w1 ⟨rfl, m, rfl⟩
  go_wp2_with fail
  go_ret
  exact RetQ.of _ rfl
theorem enters_over : Enters Try.prog 107 := enters_of Try.func107 (by kernel_rfl) rfl
theorem any_not_over (a b : List Int) : a.any (fun x => !hasB b x) = !overF a b := by
  unfold overF
  rw [List.any_eq_not_all_not]
  simp

set_option maxHeartbeats 400000 in
theorem sub_over (A B : Option Addr) (n c m d : Nat) (xs ys : List Int) (w : World) (h : Ints w A n c xs) (h' : Ints w B m d ys) (r : Bool) (hr : Hid ((decide (xs.length ≤ ys.length) && overF xs ys) = r)) :
    Calls Try.prog 92 #[.slice A n c, .slice B m d] w (RetV (.bool r) w) := by
  have hbd := h.bd
  have hbd' := h'.bd
  have hl := h.len
  have hl' := h'.len
  by_cases hnm : n ≤ m
  · have hr' : Hid (xs.any (fun x => !hasB ys x) = !r) := by
      rw [any_not_over, ← hr.out, hl, hl']; simp [hnm, Hid]
    clear hl hl'
    have hk := h.keep (below_new w (.cells #[.slice B m d] 26))
    have hk' := h'.keep (below_new w (.cells #[.slice B m d] 26))
    have HP : Hid (Pred 107 #[.pointer (some ⟨w.heap.size, 0, none⟩)] xs (fun x => !hasB ys x) (w.alloc (.cells #[.slice B m d] 26))) := by
      intro W x hW hx
      exact (over_lit x w.heap.size W B m d ys (keepBox hW (by simp [go_sem])) (hk'.keep hW)).mono fun _ _ hh => hh.v
    go_enter Try.func92, Try.ntmps92
    go_wp2_with fail
    refine (containsFunc_ints _ _ _ _ _ hk _ _ enters_over _ HP.out _ hr').mono ?_
    rintro e w1 ⟨rfl, hb1⟩
    have HB := Lib.hid (below_box hb1).1
    clear hb1
    cases r
    all_goals
      go_wp2_with fail
      go_ret
      exact ⟨rfl, HB.out⟩
  · have : false = r := by rw [← hr.out, hl, hl']; simp [hnm]
    subst this
    have d1 : ¬ (n : Int) ≤ (m : Int) := by omega
    clear hl hl'
    go_enter Try.func92, Try.ntmps92
    go_wp2_with fail
    go_ret
    exact ⟨rfl, below_new _ _⟩

set_option maxHeartbeats 400000 in
theorem over_ref (A B : Option Addr) (n c m d : Nat) (xs ys : List Int) (w : World) (h : Ints w A n c xs) (h' : Ints w B m d ys) (r : Bool) (hr : Hid (overF xs ys = r)) :
    Calls Try.prog 93 #[.slice A n c, .slice B m d] w (RetQ (.bool r) w) := by
  have hbd := h.bd
  have hlen := Lib.hid h.len
  go_enter Try.func93, Try.ntmps93
  go_wp2_with fail
  go_loopw [5] (fun i wr => ∃ k : Nat, k ≤ n ∧ i = .int .i64 k ∧ Hid (overF (xs.drop k) ys = r) ∧ Hid (∃ m, wr = w.drewN m)) (fun i _ => n - (intOf i).toNat)
  case atStart => exact ⟨0, Nat.zero_le _, rfl, hr.out, ⟨0, rfl⟩⟩
  case round =>
    obtain ⟨k, hk, rfl, hn, hB⟩ := hrel
    have hx : Ints wr A n c xs := by obtain ⟨m, rfl⟩ := hB.out; exact h.drewN m
    have hx' : Ints wr B m d ys := by obtain ⟨m, rfl⟩ := hB.out; exact h'.drewN m
    by_cases hlt : k < n
    · obtain ⟨b, off, y, rfl, hb, hcell, y1, y2, hy⟩ := hx.round hlt
      obtain ⟨q, hq⟩ : ∃ q, Hid (hasB ys y = q) := ⟨_, rfl⟩
      have hn2 : Hid ((q && overF (xs.drop (k + 1)) ys) = r) := by
        have := hn.out
        rw [drop_cons_of hy.out, overF, List.all_cons, hq.out] at this
        exact this
      go_wp2_with fail
      refine (has_any _ _ _ _ _ _ hx' _ hq).mono ?_
      rintro e w1 ⟨rfl, m1, rfl⟩
      cases q
      · have : false = r := by rw [← hn2.out]; rfl
        subst this
        go_wp2_with fail
        go_ret
        obtain ⟨m2, rfl⟩ := hB.out
        rw [World.drewN_drewN]
        exact RetQ.of _ rfl
      · go_wp2_with fail
        go_roundw
        case rel => exact ⟨k + 1, by omega, by go_num, by have := hn2.out; simp at this; exact this, by obtain ⟨m, rfl⟩ := hB.out; exact ⟨_, World.drewN_drewN _ _ _⟩⟩
        case measure => simp [intOf]; omega
    · have : true = r := by rw [← hn.out, List.drop_of_length_le (by have := hlen.out; omega)]; rfl
      subst this
      go_wp2_with fail
      go_ret
      obtain ⟨m2, rfl⟩ := hB.out
      exact RetQ.of _ rfl
end Go.Proofs.Ytecgmgidfjbamaa
