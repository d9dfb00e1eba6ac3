/- Contracts of sub.subsumed, sub.strengthened; of the reference's First, Second. -/
import Derived.Test.YtecgmgidfjbamaaSubSound
import Derived.Test.YtecgmgidfjbamaaOver
import Derived.Test.YtecgmgidfjbamaaClone
import Derived.Test.YtecgmgidfjbamaaBoxes
namespace Go.Proofs.Ytecgmgidfjbamaa
open Go.RowKit
set_option linter.unusedSimpArgs false

set_option maxHeartbeats 2000000 in
theorem subsumed_any (A : Option Addr) (n c : Nat) (l : List (List Int)) (vars : Int) (w : World) (h : Grid w A n c l) (hl : ∀ x ∈ l, Lits vars x) (r : Int) (hr : Hid (fstF l = r)) :
    Calls Try.prog 58 #[.slice A n c] w (RetV (.int .i64 r) w) := by
  have hbd := h.bd
  have hlen := Lib.hid h.len
  have G := Lib.hid h
  have HLT := Lib.hid hl
  clear h hl
  go_enter Try.func58, Try.ntmps58
  go_wp2_with fail
  go_loopw [9] (fun s wr => ∃ i : Nat, i ≤ n ∧ s = .int .i64 i ∧ Hid (subFst l (l.drop i) i = r) ∧ Hid (Below w.heap.size w wr)) (fun s _ => n - (intOf s).toNat)
  case atStart => exact ⟨0, Nat.zero_le _, rfl, hr, Below.refl _ _⟩
  case round =>
    obtain ⟨i, hi, rfl, hgo, hbl⟩ := hrel
    obtain ⟨wo, hwo⟩ : ∃ wo : World, wo = wr := ⟨_, rfl⟩
    subst hwo
    by_cases hlt : i < n
    · obtain ⟨b0, off, X, nx, cx, a, hLe, hb, hcell, hx, hak⟩ := (G.out.keep hbl.out).round hlt
      subst hLe
      have HX := Lib.hid hx
      have ha := Lib.hid (HLT.out a (List.mem_of_getElem? hak.out)).nodup
      obtain ⟨q, hq⟩ : ∃ q, Hid (subIn a i l 0 = q) := ⟨_, rfl⟩
      have hgo2 : Hid ((if 0 ≤ q then q else subFst l (l.drop (i + 1)) (i + 1)) = r) := by have := hgo.out; rw [drop_cons_of hak.out, subFst, hq.out] at this; exact this
      have y1 : (0 : Int) ≤ (i : Int) := by omega
      have y2 : (i : Int) < (n : Int) := by omega
      clear hgo hx
      go_wp2_with fail
      go_loopw [16] (fun s wr => ∃ k : Nat, k ≤ n ∧ s = .int .i64 k ∧ Hid (subIn a i (l.drop k) k = q) ∧ Hid (Below wo.heap.size wo wr)) (fun s _ => n - (intOf s).toNat)
      case atStart => exact ⟨0, Nat.zero_le _, rfl, hq, Below.refl _ _⟩
      case round =>
        obtain ⟨k, hk, rfl, hin, hbk⟩ := hrel
        by_cases hkn : k < n
        · obtain ⟨b0', off', Y, ny, cy, b, hAe, hb', hcell', hy, hbk'⟩ := ((G.out.keep hbl.out).keep hbk.out).round hkn
          cases hAe
          have HY := Lib.hid hy
          obtain ⟨t, ht⟩ : ∃ t, Hid (overF a b = t) := ⟨_, rfl⟩
          have ht2 : Hid ((decide (a.length ≤ b.length) && overF a b) = t) := by rw [overF_len ha.out]; exact ht
          have hin2 : Hid ((if (i != k) && t then (k : Int) else subIn a i (l.drop (k + 1)) (k + 1)) = q) := by have := hin.out; rw [drop_cons_of hbk'.out, subIn, ht.out] at this; exact this
          have y3 : (0 : Int) ≤ (k : Int) := by omega
          have y4 : (k : Int) < (n : Int) := by omega
          clear hin hy
          by_cases hik : i = k
          · subst hik
            have dk : ((i : Int) != (i : Int)) = false := by simp
            go_wp2_with fail
            go_roundw
            case rel => exact ⟨i + 1, by omega, by go_num, by have := hin2.out; simpa [Hid] using this, hbk⟩
            case measure => simp [intOf]; omega
          · have dk : ((i : Int) != (k : Int)) = true := by simp; omega
            have dk2 : (i != k) = true := by simpa using hik
            go_wp2_with fail
            refine (sub_over _ _ _ _ _ _ a b _ ((HX.out.keep hbk.out)) HY.out t ht2).mono ?_
            rintro e w4 ⟨rfl, hb4⟩
            have BK4 := Lib.hid (below_next hbk.out hb4)
            clear hb4
            cases t
            · go_wp2_with fail
              go_roundw
              case rel => exact ⟨k + 1, by omega, by go_num, by have := hin2.out; simpa [Hid] using this, BK4⟩
              case measure => simp [intOf]; omega
            · have hqk : (k : Int) = q := by have := hin2.out; rw [dk2] at this; simpa using this
              have hrk : (k : Int) = r := by have := hgo2.out; rw [← hqk, if_pos (by omega)] at this; exact this
              subst hqk
              subst hrk
              go_wp2_with fail
              go_ret
              exact ⟨rfl, below_next hbl.out BK4.out⟩
        · have hqm : -1 = q := by have := hin.out; rw [List.drop_of_length_le (by rw [hlen.out]; omega), subIn] at this; exact this
          have hgo3 : Hid (subFst l (l.drop (i + 1)) (i + 1) = r) := by have := hgo2.out; rw [← hqm, if_neg (by omega)] at this; exact this
          go_wp2_with fail
          go_roundw
          case rel => exact ⟨i + 1, by omega, by go_num, hgo3, below_next hbl.out hbk.out⟩
          case measure => simp [intOf]; omega
    · have : -1 = r := by have := hgo.out; rw [List.drop_of_length_le (by rw [hlen.out]; omega), subFst] at this; exact this
      subst this
      go_wp2_with fail
      go_ret
      exact ⟨rfl, hbl.out⟩

set_option maxHeartbeats 2000000 in
theorem first_ref (A : Option Addr) (n c : Nat) (l : List (List Int)) (w : World) (h : Grid w A n c l) (r : Int) (hr : Hid (fstF l = r)) :
    Calls Try.prog 64 #[.slice A n c] w (RetQ (.int .i64 r) w) := by
  have hbd := h.bd
  have hlen := Lib.hid h.len
  have G := Lib.hid h
  clear h
  go_enter Try.func64, Try.ntmps64
  go_wp2_with fail
  go_loopw [3] (fun s wr => ∃ i : Nat, i ≤ n ∧ s = .int .i64 i ∧ Hid (subFst l (l.drop i) i = r) ∧ Hid (∃ m, wr = w.drewN m)) (fun s _ => n - (intOf s).toNat)
  case atStart => exact ⟨0, Nat.zero_le _, rfl, hr, ⟨0, rfl⟩⟩
  case round =>
    obtain ⟨i, hi, rfl, hgo, hB⟩ := hrel
    obtain ⟨wo, hwo⟩ : ∃ wo : World, wo = wr := ⟨_, rfl⟩
    subst hwo
    have hbl : Hid (Below w.heap.size w wo) := by obtain ⟨m, rfl⟩ := hB.out; exact below_drewN w m
    by_cases hlt : i < n
    · obtain ⟨b0, off, X, nx, cx, a, hLe, hb, hcell, hx, hak⟩ := (G.out.keep hbl.out).round hlt
      subst hLe
      have HX := Lib.hid hx
      obtain ⟨q, hq⟩ : ∃ q, Hid (subIn a i l 0 = q) := ⟨_, rfl⟩
      have hgo2 : Hid ((if 0 ≤ q then q else subFst l (l.drop (i + 1)) (i + 1)) = r) := by have := hgo.out; rw [drop_cons_of hak.out, subFst, hq.out] at this; exact this
      have y1 : (0 : Int) ≤ (i : Int) := by omega
      have y2 : (i : Int) < (n : Int) := by omega
      clear hgo hx
      go_wp2_with fail
      go_loopw [4] (fun s wr => ∃ k : Nat, k ≤ n ∧ s = .int .i64 k ∧ Hid (subIn a i (l.drop k) k = q) ∧ Hid (∃ m, wr = wo.drewN m)) (fun s _ => n - (intOf s).toNat)
      case atStart => exact ⟨0, Nat.zero_le _, rfl, hq, ⟨0, rfl⟩⟩
      case round =>
        obtain ⟨k, hk, rfl, hin, hBk⟩ := hrel
        have hbk : Below wo.heap.size wo wr := by obtain ⟨m, rfl⟩ := hBk.out; exact below_drewN wo m
        have HB2 : Hid (∃ m, wr = w.drewN m) := by obtain ⟨m, e1⟩ := hB.out; obtain ⟨m2, e2⟩ := hBk.out; exact ⟨m + m2, by rw [e2, e1, World.drewN_drewN]⟩
        have hcell2 := keepBox hbk hcell
        have HX2 := Lib.hid (HX.out.keep hbk)
        have hbb : b0 < wr.heap.size := (cell_lt hcell2).1
        by_cases hkn : k < n
        · obtain ⟨b0', off', Y, ny, cy, b, hAe, hb', hcell', hy, hbk'⟩ := ((G.out.keep hbl.out).keep hbk).round hkn
          cases hAe
          have HY := Lib.hid hy
          obtain ⟨t, ht⟩ : ∃ t, Hid (overF a b = t) := ⟨_, rfl⟩
          have hin2 : Hid ((if (i != k) && t then (k : Int) else subIn a i (l.drop (k + 1)) (k + 1)) = q) := by have := hin.out; rw [drop_cons_of hbk'.out, subIn, ht.out] at this; exact this
          have y3 : (0 : Int) ≤ (k : Int) := by omega
          have y4 : (k : Int) < (n : Int) := by omega
          clear hin hy hbk
          by_cases hik : i = k
          · subst hik
            have dk : ((i : Int) != (i : Int)) = false := by simp
            go_wp2_with fail
            go_quiet (fail)
            go_wp2_with fail
            go_roundw
            case rel => exact ⟨i + 1, by omega, by go_num, by have := hin2.out; simpa [Hid] using this, by obtain ⟨m, rfl⟩ := hBk.out; exact ⟨_, World.drewN_drewN _ _ _⟩⟩
            case measure => simp [intOf]; omega
          · have dk : ((i : Int) != (k : Int)) = true := by simp; omega
            have dk2 : (i != k) = true := by simpa using hik
            cases t
            · go_wp2_with fail
              go_quiet ((go_at_call 93; exact RetQ.quiet (over_ref _ _ _ _ _ _ a b _ (HX2.out.drewN _) (HY.out.drewN _) _ ht)))
              go_wp2_with fail
              go_roundw
              case rel => exact ⟨k + 1, by omega, by go_num, by have := hin2.out; simpa [Hid] using this, by obtain ⟨m, rfl⟩ := hBk.out; exact ⟨_, World.drewN_drewN _ _ _⟩⟩
              case measure => simp [intOf]; omega
            · have hqk : (k : Int) = q := by have := hin2.out; rw [dk2] at this; simpa using this
              have hrk : (k : Int) = r := by have := hgo2.out; rw [← hqk, if_pos (by omega)] at this; exact this
              subst hqk
              subst hrk
              go_wp2_with fail
              go_quiet ((go_at_call 93; exact RetQ.quiet (over_ref _ _ _ _ _ _ a b _ (HX2.out.drewN _) (HY.out.drewN _) _ ht)))
              go_wp2_with fail
              go_ret
              obtain ⟨m2, rfl⟩ := HB2.out
              rw [World.drewN_drewN]
              exact RetQ.of _ rfl
        · have hqm : -1 = q := by have := hin.out; rw [List.drop_of_length_le (by rw [hlen.out]; omega), subIn] at this; exact this
          have hgo3 : Hid (subFst l (l.drop (i + 1)) (i + 1) = r) := by have := hgo2.out; rw [← hqm, if_neg (by omega)] at this; exact this
          clear hbk
          go_wp2_with fail
          go_roundw
          case rel => exact ⟨i + 1, by omega, by go_num, hgo3, HB2⟩
          case measure => simp [intOf]; omega
    · have : -1 = r := by have := hgo.out; rw [List.drop_of_length_le (by rw [hlen.out]; omega), subFst] at this; exact this
      subst this
      go_wp2_with fail
      go_ret
      obtain ⟨m2, rfl⟩ := hB.out
      exact RetQ.of _ rfl
end Go.Proofs.Ytecgmgidfjbamaa
