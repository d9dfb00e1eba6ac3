/- Contracts of the reference's Rows, Cnfs; of the law's none. -/
import Derived.Test.YtabjbpkojbdgaaaGreatDoorClone
namespace Go.Proofs.YtabjbpkojbdgaaaGreatDoor
open Go.RowKit

def rowsB (xss yss : List (List Int)) : Bool := xss == yss
def rowsF : List (List Int) → List (List Int) → Bool
  | x :: t, y :: u => if sameB x y then rowsF t u else false
  | _, _ => true
theorem rowsF_eq : ∀ (xs ys : List (List Int)), xs.length = ys.length → rowsF xs ys = (xs == ys)
  | [], [], _ => rfl
  | [], _ :: _, h => by simp at h
  | _ :: _, [], h => by simp at h
  | x :: t, y :: u, h => by
    rw [rowsF, rowsF_eq t u (by simpa using h), List.cons_beq_cons]
    by_cases hxy : x = y
    · subst hxy; simp [sameB]
    · simp [hxy, sameB]
theorem rowsB_iff {xs ys : List (List Int)} : rowsB xs ys = true ↔ xs = ys := by simp [rowsB]

set_option maxHeartbeats 400000 in
theorem rows_any (A B : Option Addr) (n c m d : Nat) (xs ys : List (List Int)) (w : World) (h : Grid w A n c xs) (h' : Grid w B m d ys) (r : Bool) (hr : Hid (rowsB xs ys = r)) :
    Calls Tryz.prog 18 #[.slice A n c, .slice B m d] w (RetQ (.bool r) w) := by
  have hbd := h.bd
  have hbd' := h'.bd
  have hl := Lib.hid h.len
  have hl' := Lib.hid h'.len
  by_cases hnm : n = m
  · subst hnm
    have hr' : Hid (rowsF xs ys = r) := by rw [rowsF_eq _ _ (by rw [hl.out, hl'.out])]; exact hr
    have d1 : ((n : Int) != (n : Int)) = false := by simp
    go_enter Tryz.func18, Tryz.ntmps18
    go_wp2_with fail
    go_loopw [5] (fun i wr => ∃ k : Nat, k ≤ n ∧ i = .int .i64 k ∧ Hid (rowsF (xs.drop k) (ys.drop k) = r) ∧ Hid (∃ m, wr = w.drewN m)) (fun i _ => n - (intOf i).toNat)
    case atStart => exact ⟨0, Nat.zero_le _, rfl, hr'.out, ⟨0, rfl⟩⟩
    case round =>
      obtain ⟨k, hk, rfl, hn, hB⟩ := hrel
      have hx : Grid wr A n c xs := by obtain ⟨m, rfl⟩ := hB.out; exact h.drewN m
      have hx' : Grid wr B n d ys := by obtain ⟨m, rfl⟩ := hB.out; exact h'.drewN m
      by_cases hlt : k < n
      · obtain ⟨b, off, A1, n1, c1, x, rfl, hb, hcell, hi, hy⟩ := hx.round hlt
        obtain ⟨b', off', A2, n2, c2, y, rfl, hb', hcell', hi', hy'⟩ := hx'.round hlt
        obtain ⟨q, hq⟩ : ∃ q, Hid (sameB x y = q) := ⟨_, rfl⟩
        have hn2 : Hid ((if q then rowsF (xs.drop (k + 1)) (ys.drop (k + 1)) else false) = r) := by
          have := hn.out
          rw [drop_cons_of hy.out, drop_cons_of hy'.out, rowsF, hq.out] at this
          exact this
        have z4 : (k : Int) < (n : Int) := by omega
        have z5 : (0 : Int) ≤ (k : Int) := by omega
        cases q
        · have : false = r := by rw [← hn2.out]; rfl
          subst this
          go_wp2_with fail
          go_quiet ((go_at_call 32; exact RetQ.quiet (same_any _ _ _ _ _ _ _ _ _ (hi.drewN _) (hi'.drewN _) _ hq)))
          go_wp2_with fail
          go_ret
          obtain ⟨m2, rfl⟩ := hB.out
          rw [World.drewN_drewN]
          exact RetQ.of _ rfl
        · go_wp2_with fail
          go_quiet ((go_at_call 32; exact RetQ.quiet (same_any _ _ _ _ _ _ _ _ _ (hi.drewN _) (hi'.drewN _) _ hq)))
          go_wp2_with fail
          go_roundw
          case rel => exact ⟨k + 1, by omega, by go_num, by have := hn2.out; simp at this; exact this, by obtain ⟨m, rfl⟩ := hB.out; exact ⟨_, World.drewN_drewN _ _ _⟩⟩
          case measure => simp [intOf]; omega
      · have : true = r := by
          rw [← hn.out, List.drop_of_length_le (by have := hl.out; omega)]; rfl
        subst this
        go_wp2_with fail
        go_ret
        obtain ⟨m2, rfl⟩ := hB.out
        exact RetQ.of _ rfl
  · have : false = r := by
      rw [← hr.out]
      symm
      rw [Bool.eq_false_iff]
      intro e
      have := rowsB_iff.1 e
      rw [this, hl'.out] at hl
      exact hnm hl.out.symm
    subst this
    have d1 : ((n : Int) != (m : Int)) = true := by simp; omega
    go_enter Tryz.func18, Tryz.ntmps18
    go_wp2_with fail
    go_ret
    exact RetQ.of0 rfl

set_option maxHeartbeats 400000 in
theorem cnfs_any (A B : Option Addr) (n c m d : Nat) (xs ys : List (List Int)) (v u : Int) (w : World) (h : Grid w A n c xs) (h' : Grid w B m d ys) (r : Bool) (hr : Hid (((v == u) && rowsB xs ys) = r)) :
    Calls Tryz.prog 7 #[.agg #[.int .i64 v, .slice A n c], .agg #[.int .i64 u, .slice B m d]] w (RetV (.bool r) w) := by
  have g := h.keep (below_alloc (below_new w (.cells #[.int .i64 v, .slice A n c] 24)) (.cells #[.int .i64 u, .slice B m d] 24))
  have g' := h'.keep (below_alloc (below_new w (.cells #[.int .i64 v, .slice A n c] 24)) (.cells #[.int .i64 u, .slice B m d] 24))
  cases hvu : (v == u)
  · have : false = r := by rw [← hr.out, hvu]; rfl
    subst this
    go_enter Tryz.func7, Tryz.ntmps7
    go_wp2_with fail
    go_ret
    exact ⟨rfl, below_alloc (below_new _ _) _⟩
  · have hr' : Hid (rowsB xs ys = r) := by have := hr.out; rw [hvu] at this; simp at this; exact this
    clear hr
    go_enter Tryz.func7, Tryz.ntmps7
    go_wp2_with fail
    refine (rows_any _ _ _ _ _ _ _ _ _ g g' _ hr').mono ?_
    rintro e w1 ⟨rfl, k, rfl⟩
    go_wp2_with fail
    go_ret
    exact ⟨rfl, below_next (below_alloc (below_new _ _) _) (below_drewN _ _)⟩

end Go.Proofs.YtabjbpkojbdgaaaGreatDoor
