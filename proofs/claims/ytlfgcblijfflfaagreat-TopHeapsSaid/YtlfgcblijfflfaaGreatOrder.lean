/- Contracts of cmp.Compare, cmp.Or at ints, of cnf.Order. -/
import Derived.Test.YtlfgcblijfflfaaGreatCnfA
import Derived.Test.YtlfgcblijfflfaaGreatSortPlain
import Derived.Test.YtlfgcblijfflfaaGreatBoxes
import Derived.Sort.Grow
namespace Go.Proofs.YtlfgcblijfflfaaGreat
open Go.RowKit

def cmpI (x y : Int) : Int := if x < y then -1 else if y < x then 1 else 0
theorem isNaN_any (x : Int) (w : World) : Calls Tryz.prog 70 #[.int .i64 x] w (RetQ (.bool false) w) := by
  have d1 : (x != x) = false := by simp
  go_enter Tryz.func70, Tryz.ntmps70
  go_wp2_with fail
  go_ret
  exact RetQ.of0 rfl
theorem compare_any (x y : Int) (w : World) : Calls Tryz.prog 37 #[.int .i64 x, .int .i64 y] w (RetQ (.int .i64 (cmpI x y)) w) := by
  go_enter Tryz.func37, Tryz.ntmps37
  go_wp2_with fail
  refine (isNaN_any x w).mono ?_
  rintro e w1 ⟨rfl, m1, rfl⟩
  go_wp2_with fail
  refine (isNaN_any y _).mono ?_
  rintro e w2 ⟨rfl, m2, rfl⟩
  by_cases h1 : x < y
  · go_wp2_with fail
    go_ret
    exact RetQ.of _ (by unfold cmpI; rw [if_pos (by omega)]; rfl)
  · by_cases h2 : y < x
    · go_wp2_with fail
      go_ret
      exact RetQ.of _ (by unfold cmpI; rw [if_neg (by omega), if_pos (by omega)]; rfl)
    · go_wp2_with fail
      go_ret
      exact RetQ.of _ (by unfold cmpI; rw [if_neg (by omega), if_neg (by omega)]; rfl)
/-- The first that is not 0, or 0. -/
def orF : List Int → Int
  | [] => 0
  | x :: t => if x != 0 then x else orF t
theorem or_any (A : Option Addr) (n c : Nat) (xs : List Int) (w : World) (h : Ints w A n c xs) (r : Int) (hr : Hid (orF xs = r)) : Calls Tryz.prog 88 #[.slice A n c] w (RetQ (.int .i64 r) w) := by
  have hbd := h.bd
  have hlen := Lib.hid h.len
  go_enter Tryz.func88, Tryz.ntmps88
  go_wp2_with fail
  go_loop [8] (fun i => ∃ k : Nat, k ≤ n ∧ i = .int .i64 k ∧ Hid (orF (xs.drop k) = r)) (fun i => n - (intOf i).toNat)
  case atStart => exact ⟨0, Nat.zero_le _, rfl, hr.out⟩
  case round =>
    obtain ⟨k, hk, rfl, hn⟩ := hrel
    by_cases hlt : k < n
    · obtain ⟨b, off, y, rfl, hb, hcell, -, -, hy⟩ := h.round hlt
      have hn2 : Hid ((if y != 0 then y else orF (xs.drop (k + 1))) = r) := by have := hn.out; rw [drop_cons_of hy.out, orF] at this; exact this
      by_cases hy0 : y = 0
      · subst hy0
        go_wp2_with fail
        go_round
        case rel => exact ⟨k + 1, by omega, by go_num, by have := hn2.out; simpa [Hid] using this⟩
        case measure => simp [intOf]; omega
      · have d1 : (y != 0) = true := by simpa using hy0
        have : y = r := by have := hn2.out; rw [d1] at this; simpa using this
        subst this
        go_wp2_with fail
        go_ret
        exact RetQ.of0 rfl
    · have : 0 = r := by rw [← hn.out, List.drop_of_length_le (by have := hlen.out; omega)]; rfl
      subst this
      go_wp2_with fail
      go_ret
      exact RetQ.of0 rfl

/-- A value; the world has drawn and grown. -/
def RetG (v : Value) (w : World) (e : Ending) (w' : World) : Prop := e = .returned v ∧ ∃ q os, w' = Sort.grow (w.drewN q) os
theorem below_grow (w : World) (q : Nat) (os : Array Obj) : Below w.heap.size w (Sort.grow (w.drewN q) os) :=
  ⟨rfl, rfl, rfl, by simp [Sort.grow], fun k hk => Sort.heap_grow_old (w.drewN q) os hk⟩
theorem RetG.v {v : Value} {w : World} {e : Ending} {w' : World} (h : RetG v w e w') : RetV v w e w' := by
  obtain ⟨h1, q, os, rfl⟩ := h
  exact ⟨h1, below_grow w q os⟩
theorem grow_drewN (w : World) (os : Array Obj) (q : Nat) : (Sort.grow w os).drewN q = Sort.grow (w.drewN q) os := rfl
theorem RetG.trans {v v' : Value} {w w1 w2 : World} {e e' : Ending} (h : RetG v w e w1) (h' : RetG v' w1 e' w2) : RetG v' w e' w2 := by
  obtain ⟨_, q, os, rfl⟩ := h
  obtain ⟨h1, q', os', rfl⟩ := h'
  refine ⟨h1, q + q', os ++ os', ?_⟩
  rw [grow_drewN, Sort.grow_grow, World.drewN_drewN]

def ordF (x y : Int) : Int := if cmpI x.natAbs y.natAbs != 0 then cmpI x.natAbs y.natAbs else cmpI y x
theorem ordF_lt {x y : Int} : ordF x y < 0 ↔ aheadB x y = true := by
  unfold ordF cmpI
  rw [aheadB_iff]
  by_cases h1 : (x.natAbs : Int) < y.natAbs
  · simp [h1]; omega
  · by_cases h2 : (y.natAbs : Int) < x.natAbs
    · simp [h1, h2]; omega
    · simp [h1, h2]
      by_cases h3 : y < x
      · simp [h3]; omega
      · by_cases h4 : x < y
        · simp [h3, h4]; omega
        · simp [h3, h4]; omega
theorem ordF_or (x y : Int) : orF [cmpI x.natAbs y.natAbs, cmpI y x] = ordF x y := by
  unfold ordF
  simp only [orF]
  split
  · rfl
  · split
    · rfl
    · rename_i h; simp at h; exact h.symm
theorem ordF_zero {x y : Int} : ordF x y = 0 ↔ x = y := by
  unfold ordF cmpI
  by_cases h1 : (x.natAbs : Int) < y.natAbs
  · simp [h1]; omega
  · by_cases h2 : (y.natAbs : Int) < x.natAbs
    · simp [h1, h2]; omega
    · simp [h1, h2]
      by_cases h3 : y < x
      · simp [h3]; omega
      · by_cases h4 : x < y
        · simp [h3, h4]; omega
        · simp [h3, h4]; omega
theorem cmpI_i64 (x y : Int) : I64 (cmpI x y) := by unfold cmpI I64; split <;> (try split) <;> omega

theorem order_any (x y : Int) (w : World) (hx : -1000000 ≤ x ∧ x ≤ 1000000) (hy : -1000000 ≤ y ∧ y ≤ 1000000) : Calls Tryz.prog 61 #[.int .i64 x, .int .i64 y] w (RetG (.int .i64 (ordF x y)) w) := by
  obtain ⟨p, hp⟩ : ∃ p, Hid (cmpI x.natAbs y.natAbs = p) := ⟨_, rfl⟩
  obtain ⟨q, hq⟩ : ∃ q, Hid (cmpI y x = q) := ⟨_, rfl⟩
  have hr : Hid (orF [p, q] = ordF x y) := by rw [← hp.out, ← hq.out]; exact ordF_or x y
  generalize ordF x y = r at hr ⊢
  have p64 : I64 p := by rw [← hp.out]; exact cmpI_i64 _ _
  have q64 : I64 q := by rw [← hq.out]; exact cmpI_i64 _ _
  go_enter Tryz.func61, Tryz.ntmps61
  go_wp2_with fail
  refine (var_any x w (by omega) (by omega)).mono ?_
  rintro e w1 ⟨rfl, m1, rfl⟩
  go_wp2_with fail
  refine (var_any y _ (by omega) (by omega)).mono ?_
  rintro e w2 ⟨rfl, m2, rfl⟩
  go_wp2_with fail
  refine (compare_any _ _ _).mono ?_
  rintro e w3 ⟨rfl, m3, rfl⟩
  rw [hp.out]
  go_wp2_with fail
  refine (compare_any _ _ _).mono ?_
  rintro e w4 ⟨rfl, m4, rfl⟩
  rw [hq.out]
  go_wp2_with fail
  refine (or_any _ _ _ [p, q] _ (ints_made _ 3 [p, q] (by simp) (by simp [p64, q64]) (by simp [maxLen])) r hr).mono ?_
  rintro e w5 ⟨rfl, m5, rfl⟩
  go_wp2_with fail
  go_ret
  refine ⟨rfl, ?_⟩
  rw [Sort.alloc_eq_grow]
  simp only [World.drewN_drewN, grow_drewN]
  exact ⟨_, _, rfl⟩
end Go.Proofs.YtlfgcblijfflfaaGreat
