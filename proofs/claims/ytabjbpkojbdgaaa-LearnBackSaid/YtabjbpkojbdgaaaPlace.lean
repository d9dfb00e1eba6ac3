/- Contract of the reference's Place; the level to which one goes back, over the clause ahead of its sorting. -/
import Derived.Test.YtabjbpkojbdgaaaLearnC
namespace Go.Proofs.Ytabjbpkojbdgaaa
open Go.RowKit
set_option linter.unusedSimpArgs false

set_option maxHeartbeats 1000000 in
theorem place_ref (A : Option Addr) (n c : Nat) (xs : List Int) (x : Int) (w : World) (h : Ints w A n c xs) (r : Int) (hr : Hid (idxF (fun y => y == x) xs 0 = r)) :
    Calls Try.prog 27 #[.slice A n c, .int .i64 x] w (RetQ (.int .i64 r) w) := by
  have H := Lib.hid h
  have hbd := h.bd
  have hlen := Lib.hid h.len
  clear h
  go_enter Try.func27, Try.ntmps27
  go_wp2_with fail
  go_loopw [5] (fun i wr => ∃ (k m : Nat), k ≤ n ∧ i = .int .i64 k ∧ wr = w.drewN m ∧ Hid (idxF (fun y => y == x) (xs.drop k) k = r)) (fun i _ => n - (intOf i).toNat)
  case atStart => exact ⟨0, 0, Nat.zero_le _, rfl, rfl, hr⟩
  case round =>
    clear hr
    obtain ⟨k, m, hk, rfl, rfl, hr⟩ := hrel
    have HI := Lib.hid (H.out.keep (below_drewN w m))
    by_cases hkn : k < n
    · obtain ⟨b, off, y, hAe, hb, hcell, y1, y2, hyk⟩ := HI.out.round hkn
      subst hAe
      have hst : Hid ((if y == x then (k : Int) else idxF (fun y => y == x) (xs.drop (k + 1)) (k + 1)) = r) := by have := hr.out; rw [drop_cons_of hyk.out, idxF] at this; exact this
      clear hr
      by_cases hyx : y = x
      · have hfin : (k : Int) = r := by have := hst.out; rw [hyx] at this; simpa using this
        subst hfin
        have dx : (y == x) = true := by rw [beq_iff_eq]; exact hyx
        clear hst
        go_wp2_with fail
        go_ret
        exact ⟨rfl, m, rfl⟩
      · have dx : (y == x) = false := by rw [beq_eq_false_iff_ne]; exact hyx
        have hst2 : Hid (idxF (fun y => y == x) (xs.drop (k + 1)) (k + 1) = r) := by have := hst.out; rw [dx] at this; simpa [Hid] using this
        clear hst
        go_wp2_with fail
        go_roundw
        case rel => exact ⟨k + 1, m, by omega, by go_num, rfl, hst2⟩
        case measure => simp [intOf]; omega
    · have hfin : -1 = r := by have := hr.out; rw [List.drop_of_length_le (by rw [hlen.out]; omega), idxF] at this; exact this
      subst hfin
      clear hr
      go_wp2_with fail
      go_ret
      exact ⟨rfl, m, rfl⟩

/-- backF is the greatest level below the last one. -/
theorem backF_spec (t v : List Int) (z : Int) : ∀ (l : List Int) (b : Int), b ≤ backF t v z l b ∧ (∀ x ∈ l, lvF t v x < z → lvF t v x ≤ backF t v z l b) ∧ (backF t v z l b = b ∨ ∃ x ∈ l, lvF t v x < z ∧ backF t v z l b = lvF t v x)
  | [], b => ⟨Int.le_refl _, by simp, .inl rfl⟩
  | y :: r, b => by
    rw [backF]
    obtain ⟨h1, h2, h3⟩ := backF_spec t v z r (if lvF t v y < z then max b (lvF t v y) else b)
    by_cases hy : lvF t v y < z
    · rw [if_pos hy] at h1 h2 h3 ⊢
      refine ⟨by omega, fun x hx hxz => ?_, ?_⟩
      · rcases List.mem_cons.1 hx with e | hx
        · subst e; omega
        · exact h2 x hx hxz
      · rcases h3 with h3 | ⟨x, hx, hxz, h3⟩
        · by_cases hb : b ≤ lvF t v y
          · right; exact ⟨y, by simp, hy, by omega⟩
          · left; omega
        · right; exact ⟨x, by simp [hx], hxz, h3⟩
    · rw [if_neg hy] at h1 h2 h3 ⊢
      refine ⟨h1, fun x hx hxz => ?_, ?_⟩
      · rcases List.mem_cons.1 hx with e | hx
        · subst e; exact absurd hxz hy
        · exact h2 x hx hxz
      · rcases h3 with h3 | ⟨x, hx, hxz, h3⟩
        · exact .inl h3
        · right; exact ⟨x, by simp [hx], hxz, h3⟩
/-- The reference goes over the clause with its literals of level 0, unsorted. -/
theorem back_eq {t v : List Int} {z : Int} (c : List Int) : backF t v z (sortF (c.filter (fun l => !(lvF t v l == 0)))) 0 = backF t v z c 0 := by
  obtain ⟨a1, a2, a3⟩ := backF_spec t v z (sortF (c.filter (fun l => !(lvF t v l == 0)))) 0
  obtain ⟨b1, b2, b3⟩ := backF_spec t v z c 0
  have le1 : backF t v z (sortF (c.filter (fun l => !(lvF t v l == 0)))) 0 ≤ backF t v z c 0 := by
    rcases a3 with h | ⟨x, hx, hxz, h⟩
    · omega
    · rw [h]
      exact b2 x (List.mem_filter.1 (sortF_mem.1 hx)).1 hxz
  have le2 : backF t v z c 0 ≤ backF t v z (sortF (c.filter (fun l => !(lvF t v l == 0)))) 0 := by
    rcases b3 with h | ⟨x, hx, hxz, h⟩
    · omega
    · by_cases hx0 : lvF t v x = 0
      · omega
      · rw [h]
        exact a2 x (sortF_mem.2 (List.mem_filter.2 ⟨hx, by simp [hx0]⟩)) hxz
  omega
/-- Without a level nothing is taught. -/
theorem taught_zero {vars : Int} {xss : List (List Int)} {t y v : List Int} {a : Int} (h : Told vars xss t y v 0 a) (ha : 0 ≤ a) : taughtF xss t y v 0 a = [] := by
  obtain ⟨c, h1, h2, h3⟩ := h.fals ha
  have hf : c.filter (fun l => !(lvF t v l == 0)) = [] := List.filter_eq_nil_iff.2 fun x hx => by
    obtain ⟨p0, p1, _⟩ := plc_mem (h3 x hx)
    have hi : (plcF t x).toNat < v.length := by rw [h.lev.len, h.hist.1]; omega
    have := h.lev.low (plcF t x).toNat (lvF t v x) (by rw [lvF, List.getD_eq_getElem?_getD, List.getElem?_eq_getElem hi]; rfl)
    have e : lvF t v x = 0 := by omega
    simp [e]
  rw [taughtF, List.getD_eq_getElem?_getD, h1, cloR, if_pos rfl]
  show sortF (c.filter _) = []
  rw [hf]
  rfl
end Go.Proofs.Ytabjbpkojbdgaaa
