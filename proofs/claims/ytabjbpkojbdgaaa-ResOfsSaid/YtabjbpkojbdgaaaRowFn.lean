/- Contracts of slices.IndexFunc and ContainsFunc at rows. -/
import Derived.Test.YtabjbpkojbdgaaaCnfA
import Derived.Test.YtabjbpkojbdgaaaBoxes
namespace Go.Proofs.Ytabjbpkojbdgaaa
open Go.RowKit

/-- A predicate that is called at the rows xss. -/
def PredR (g : Nat) (lb : Array Value) (xss : List (List Int)) (p : List Int → Bool) (w : World) : Prop :=
  ∀ (W : World) (A : Option Addr) (n c : Nat) (xs : List Int), Below w.heap.size w W → Ints W A n c xs → xs ∈ xss → Calls Try.prog g (#[.slice A n c] ++ lb) W (RetV (.bool (p xs)) W)

set_option maxHeartbeats 400000 in
theorem indexFunc_rows (A : Option Addr) (n c : Nat) (xss : List (List Int)) (w : World) (h : Grid w A n c xss) (g : Nat) (lb : Array Value) (eg : Enters Try.prog g) (p : List Int → Bool) (hp : PredR g lb xss p w) (r : Int) (hr : Hid (idxF p xss 0 = r)) :
    Calls Try.prog 87 #[.slice A n c, .func (.func g) #[] lb] w (RetV (.int .i64 r) w) := by
  have hbd := h.bd
  have hlen := Lib.hid h.len
  have HP := Lib.hid hp
  have eg' : ∀ args w, (callFunc g args).run Try.prog w = .ok (.enter g args) w := eg
  clear hp
  go_enter Try.func87, Try.ntmps87
  go_wp2_with fail
  go_loopw [8] (fun i wr => ∃ k : Nat, k ≤ n ∧ i = .int .i64 k ∧ Hid (idxF p (xss.drop k) k = r) ∧ Hid (Below w.heap.size w wr)) (fun i _ => n - (intOf i).toNat)
  case atStart => exact ⟨0, Nat.zero_le _, rfl, hr.out, Below.refl _ _⟩
  case round =>
    obtain ⟨k, hk, rfl, hn, hB⟩ := hrel
    by_cases hlt : k < n
    · obtain ⟨b, off, A', n', c', xs, rfl, hb, hcell, hi, hy⟩ := (h.keep hB.out).round hlt
      have hm := Lib.hid (HP.out wr A' n' c' xs hB.out hi (List.mem_of_getElem? hy.out))
      obtain ⟨q, hq⟩ : ∃ q, Hid (p xs = q) := ⟨_, rfl⟩
      go_wp2_with fail
      refine hm.out.mono ?_
      rw [hq.out]
      rintro e w1 ⟨rfl, hb1⟩
      have hB1 := Lib.hid (below_next hB.out hb1)
      clear hb1
      cases q
      · go_wp2_with fail
        go_roundw
        case rel => exact ⟨k + 1, by omega, by go_num, by rw [← hn.out, drop_cons_of hy.out, idxF, hq.out]; rfl, hB1⟩
        case measure => simp [intOf]; omega
      · go_wp2_with fail
        go_ret
        exact ⟨by rw [← hn.out, drop_cons_of hy.out, idxF, hq.out]; rfl, hB1.out⟩
    · go_wp2_with fail
      go_ret
      exact ⟨by rw [← hn.out, List.drop_of_length_le (by have := hlen.out; omega)]; rfl, hB.out⟩

theorem containsFunc_rows (A : Option Addr) (n c : Nat) (xss : List (List Int)) (w : World) (h : Grid w A n c xss) (g : Nat) (lb : Array Value) (eg : Enters Try.prog g) (p : List Int → Bool) (hp : PredR g lb xss p w) (r : Bool) (hr : Hid (xss.any p = r)) :
    Calls Try.prog 97 #[.slice A n c, .func (.func g) #[] lb] w (RetV (.bool r) w) := by
  have HP := Lib.hid hp
  clear hp
  obtain ⟨q, hq⟩ : ∃ q, Hid (idxF p xss 0 = q) := ⟨_, rfl⟩
  have e := idxF_any p xss 0
  rw [hq.out, hr.out] at e
  subst e
  go_enter Try.func97, Try.ntmps97
  go_wp2_with fail
  refine (indexFunc_rows _ _ _ _ _ h _ _ eg p HP.out q hq).mono ?_
  rintro e w1 ⟨rfl, hb1⟩
  go_wp2_with fail
  go_ret
  exact ⟨rfl, hb1⟩
end Go.Proofs.Ytabjbpkojbdgaaa
