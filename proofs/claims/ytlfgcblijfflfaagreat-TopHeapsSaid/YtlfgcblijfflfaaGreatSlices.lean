/- Contracts of the library's slices.IndexFunc, ContainsFunc, Index, Contains at ints. -/
import Derived.Test.YtlfgcblijfflfaaGreatProg
import Derived.Test.YtlfgcblijfflfaaGreatBase
import Derived.Test.YtlfgcblijfflfaaGreatPlain
import Derived.Shelf.Abstract
namespace Go.Proofs.YtlfgcblijfflfaaGreat
open Go.RowKit

/-- A predicate that is called at the ints xs, in whatever world in which all that lay in w lies unturned. -/
def Pred (g : Nat) (lb : Array Value) (xs : List Int) (p : Int → Bool) (w : World) : Prop :=
  ∀ (W : World) (x : Int), Below w.heap.size w W → x ∈ xs → Calls Tryz.prog g (#[.int .i64 x] ++ lb) W (RetV (.bool (p x)) W)

set_option maxHeartbeats 400000 in
theorem indexFunc_ints (A : Option Addr) (n c : Nat) (xs : List Int) (w : World) (h : Ints w A n c xs) (g : Nat) (lb : Array Value) (eg : Enters Tryz.prog g) (p : Int → Bool) (hp : Pred g lb xs p w) (r : Int) (hr : Hid (idxF p xs 0 = r)) :
    Calls Tryz.prog 57 #[.slice A n c, .func (.func g) #[] lb] w (RetV (.int .i64 r) w) := by
  have hbd := h.bd
  have hlen := Lib.hid h.len
  have HP := Lib.hid hp
  have eg' : ∀ args w, (callFunc g args).run Tryz.prog w = .ok (.enter g args) w := eg
  clear hp
  go_enter Tryz.func57, Tryz.ntmps57
  go_wp2_with fail
  go_loopw [8] (fun i wr => ∃ k : Nat, k ≤ n ∧ i = .int .i64 k ∧ Hid (idxF p (xs.drop k) k = r) ∧ Hid (Below w.heap.size w wr)) (fun i _ => n - (intOf i).toNat)
  case atStart => exact ⟨0, Nat.zero_le _, rfl, hr.out, Below.refl _ _⟩
  case round =>
    obtain ⟨k, hk, rfl, hn, hB⟩ := hrel
    by_cases hlt : k < n
    · obtain ⟨b, off, y, rfl, hb, hcell, y1, y2, hy⟩ := (h.keep hB.out).round hlt
      have hm := Lib.hid (HP.out wr y hB.out (List.mem_of_getElem? hy.out))
      obtain ⟨q, hq⟩ : ∃ q, Hid (p y = q) := ⟨_, rfl⟩
      go_wp2_with fail
      refine hm.out.mono ?_
      rw [hq.out]
      rintro e w1 ⟨rfl, hb1⟩
      have hB1 := Lib.hid (below_next hB.out hb1)
      clear hb1
      cases q
      · go_wp2_with fail
        go_roundw
        case rel => exact ⟨k + 1, by omega, by go_num, by rw [← hn.out, drop_cons_of hy.out, idxF, hq.out]; rfl, hB1⟩
        case measure => simp [intOf]; omega
      · go_wp2_with fail
        go_ret
        exact ⟨by rw [← hn.out, drop_cons_of hy.out, idxF, hq.out]; rfl, hB1.out⟩
    · go_wp2_with fail
      go_ret
      exact ⟨by rw [← hn.out, List.drop_of_length_le (by have := hlen.out; omega)]; rfl, hB.out⟩

theorem containsFunc_ints (A : Option Addr) (n c : Nat) (xs : List Int) (w : World) (h : Ints w A n c xs) (g : Nat) (lb : Array Value) (eg : Enters Tryz.prog g) (p : Int → Bool) (hp : Pred g lb xs p w) (r : Bool) (hr : Hid (xs.any p = r)) :
    Calls Tryz.prog 80 #[.slice A n c, .func (.func g) #[] lb] w (RetV (.bool r) w) := by
  have HP := Lib.hid hp
  clear hp
  obtain ⟨q, hq⟩ : ∃ q, Hid (idxF p xs 0 = q) := ⟨_, rfl⟩
  have e := idxF_any p xs 0
  rw [hq.out, hr.out] at e
  subst e
  go_enter Tryz.func80, Tryz.ntmps80
  go_wp2_with fail
  refine (indexFunc_ints _ _ _ _ _ h _ _ eg p HP.out q hq).mono ?_
  rintro e w1 ⟨rfl, hb1⟩
  go_wp2_with fail
  go_ret
  exact ⟨rfl, hb1⟩

set_option maxHeartbeats 400000 in
theorem index_ints (A : Option Addr) (n c : Nat) (xs : List Int) (x : Int) (w : World) (h : Ints w A n c xs) (r : Int) (hr : Hid (idxF (fun y => x == y) xs 0 = r)) :
    Calls Tryz.prog 66 #[.slice A n c, .int .i64 x] w (RetQ (.int .i64 r) w) := by
  have hbd := h.bd
  have hlen := Lib.hid h.len
  go_enter Tryz.func66, Tryz.ntmps66
  go_wp2_with fail
  go_loop [8] (fun i => ∃ k : Nat, k ≤ n ∧ i = .int .i64 k ∧ Hid (idxF (fun y => x == y) (xs.drop k) k = r)) (fun i => n - (intOf i).toNat)
  case atStart => exact ⟨0, Nat.zero_le _, rfl, hr.out⟩
  case round =>
    obtain ⟨k, hk, rfl, hn⟩ := hrel
    by_cases hlt : k < n
    · obtain ⟨b, off, y, rfl, hb, hcell, y1, y2, hy⟩ := h.round hlt
      cases hq : (x == y)
      · go_wp2_with fail
        go_round
        case rel => exact ⟨k + 1, by omega, by go_num, by rw [← hn.out, drop_cons_of hy.out, idxF, hq]; rfl⟩
        case measure => simp [intOf]; omega
      · go_wp2_with fail
        go_ret
        exact RetQ.of0 (by rw [← hn.out, drop_cons_of hy.out, idxF, hq]; rfl)
    · go_wp2_with fail
      go_ret
      exact RetQ.of0 (by rw [← hn.out, List.drop_of_length_le (by have := hlen.out; omega)]; rfl)

theorem contains_ints (A : Option Addr) (n c : Nat) (xs : List Int) (x : Int) (w : World) (h : Ints w A n c xs) (r : Bool) (hr : Hid (hasB xs x = r)) :
    Calls Tryz.prog 33 #[.slice A n c, .int .i64 x] w (RetQ (.bool r) w) := by
  obtain ⟨q, hq⟩ : ∃ q, Hid (idxF (fun y => x == y) xs 0 = q) := ⟨_, rfl⟩
  have e := idxF_any (fun y => x == y) xs 0
  rw [hq.out, any_has, hr.out] at e
  subst e
  go_enter Tryz.func33, Tryz.ntmps33
  go_wp2_with fail
  refine (index_ints _ _ _ _ _ _ h q hq).mono ?_
  rintro e w1 ⟨rfl, m, rfl⟩
  go_wp2_with fail
  go_ret
  exact RetQ.of _ rfl
end Go.Proofs.YtlfgcblijfflfaaGreat
