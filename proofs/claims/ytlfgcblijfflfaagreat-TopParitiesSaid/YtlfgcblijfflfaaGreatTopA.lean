/- Contracts of bits, LitHolds, ClausesHold. -/
import Derived.Test.YtlfgcblijfflfaaGreatKitA
import Derived.Test.YtlfgcblijfflfaaGreatOwn
import Derived.Test.YtlfgcblijfflfaaGreatBitW
import Derived.BigQuiet
namespace Go.Proofs.YtlfgcblijfflfaaGreat
open Go.RowKit
set_option linter.unusedSimpArgs false

theorem bool_infoA : (Tryz.prog.info? 4).map (fun i => (i.zero, i.size, i.bytes)) = some (some (.bool false), 1, 1) := by kernel_rfl
def RetBools (bs : List Bool) (w : World) (e : Ending) (w' : World) : Prop :=
  ∃ A n c, e = .returned (.slice A n c) ∧ Own 4 w' w.heap.size A n c (bs.map Value.bool) ∧ Below w.heap.size w w'

set_option maxHeartbeats 4000000 in
theorem bits_any (s n : Nat) (w : World) (hs : s < 64) (hn : n ≤ 60) : Calls Tryz.prog 10 #[.int .i64 s, .int .i64 n] w (RetBools (bitW n s) w) := by
  obtain ⟨ib, hib, hz0, hz1, hz2⟩ := info_parts bool_infoA
  have hbl := bitW_len n s
  go_enter Tryz.func10, Tryz.ntmps10
  go_wp2_with fail
  go_loopw [5, 6] (fun s5 s6 wr => ∃ (i : Nat) (A : Option Addr) (c : Nat), i ≤ n ∧ s5 = .slice A i c ∧ s6 = .int .i64 i ∧ Hid (Own 4 wr w.heap.size A i c (((bitW n s).take i).map Value.bool)) ∧ Hid (Below w.heap.size w wr)) (fun _ i _ => n - (intOf i).toNat)
  case atStart => exact ⟨0, none, 0, Nat.zero_le _, rfl, rfl, Own.nil _ _ _, Below.refl _ _⟩
  case round =>
    obtain ⟨i, A, c, hi, rfl, rfl, hO, hB⟩ := hrel
    by_cases hin : i < n
    · have u1 : (i : Int) < (n : Int) := by omega
      have u2 : (0 : Int) ≤ (i : Int) := by omega
      have hq := bit_andW (k := s) (i := i) hs
      have HTK : Hid ((bitW n s).take (i + 1) = (bitW n s).take i ++ [s / 2 ^ i % 2 == 1]) := take_snoc_of (bitW_at n s i hin)
      have hqz := hB.out.size
      obtain ⟨bv, hbv⟩ : ∃ b : Bool, Hid ((s / 2 ^ i % 2 == 1) = b) := ⟨_, rfl⟩
      rw [hbv.out] at hq HTK
      have HSL := Lib.hid (sl_one wr 4 (.bool bv) rfl)
      have HOn := Lib.hid (hO.out.keep (below_new wr (.cells #[.bool bv] 4)))
      go_wp2_with (first
        | (at_builtin
           refine wpList_append_sl _ rfl (.tmp 12) (.tmp 18) _ rfl w.heap.size 4 ib _ 1 Tryz.underlying33 hib hz0 hz1 hz2 rfl A i c _ rfl HOn.out (some ⟨wr.heap.size, 0, none⟩) 1 1 _ rfl HSL.out (by simp [Value.oneCell']) (by simp only [maxLen]; omega) (by omega) (by simp; omega) ?_
           intro L1 cL1 w9 hL1 hg1 hat1
           have HL1 : Hid (Own 4 w9 w.heap.size L1 (i + 1) cL1 (((bitW n s).take (i + 1)).map Value.bool)) := by rw [HTK.out, List.map_append]; exact hL1
           have HB9 := Lib.hid (below_grown (below_alloc hB.out (.cells #[.bool bv] 4)) HOn.out (Nat.le_refl _) hg1)
           clear hL1 hg1 hat1))
      go_roundw
      case rel => exact ⟨i + 1, L1, cL1, by omega, rfl, by go_num, HL1, HB9⟩
      case measure => simp [intOf] <;> omega
    · obtain rfl : i = n := by omega
      have HO2 : Hid (Own 4 wr w.heap.size A i c ((bitW i s).map Value.bool)) := by have := hO.out; rw [List.take_of_length_le (by rw [hbl]; exact Nat.le_refl _)] at this; exact this
      clear hO
      go_wp2_with fail
      go_ret
      exact ⟨A, i, c, rfl, HO2.out, hB.out⟩

theorem litHolds_any (x : Int) (A : Option Addr) (n c : Nat) (a : List Bool) (w : World) (h : Bools w A n c a) (hx : x ≠ 0 ∧ x.natAbs ≤ n) (hn : n ≤ 1000) (r : Bool) (hr : Hid (litB a x = r)) :
    Calls Tryz.prog 30 #[.int .i64 x, .slice A n c] w (RetQ (.bool r) w) := by
  obtain ⟨p, hp⟩ : ∃ p : Nat, x.natAbs = p + 1 := ⟨x.natAbs - 1, by omega⟩
  have hpn : p < n := by omega
  obtain ⟨b, off, v, hAe, hb, hcell, hk⟩ := h.round hpn
  have hr2 : Hid ((v == decide (0 < x)) = r) := by
    have := hr.out
    unfold litB at this
    rw [hp, Nat.add_sub_cancel, hk.out] at this
    exact this
  have hbd := h.bd
  have u1 : (0 : Int) ≤ (p : Int) := by omega
  have u2 : (p : Int) < (n : Int) := by omega
  subst hAe
  by_cases h0 : x < 0
  · have d0 : decide (x < 0) = true := decide_eq_true h0
    have dp : decide (0 < x) = false := decide_eq_false (by omega)
    have ej : -x - 1 = (p : Int) := by omega
    have hr3 : (!v) = r := by have := hr2.out; rw [dp] at this; rw [← this]; cases v <;> rfl
    subst hr3
    clear h hr hr2 hk hp
    go_enter Tryz.func30, Tryz.ntmps30
    go_wp2_with fail
    go_ret
    exact RetQ.of0 rfl
  · have d0 : decide (x < 0) = false := decide_eq_false h0
    have dp : decide (0 < x) = true := decide_eq_true (by omega)
    have ej : x - 1 = (p : Int) := by omega
    have hr3 : v = r := by have := hr2.out; rw [dp] at this; rw [← this]; cases v <;> rfl
    subst hr3
    clear h hr hr2 hk hp
    go_enter Tryz.func30, Tryz.ntmps30
    go_wp2_with fail
    go_ret
    exact RetQ.of0 rfl

set_option maxHeartbeats 4000000 in
set_option maxRecDepth 100000 in
theorem clHold_any (A C : Option Addr) (n c p f : Nat) (xss : List (List Int)) (a : List Bool) (w : World) (h : Grid w A n c xss) (ha : Bools w C p f a) (hx : ∀ x ∈ xss, Lits p x) (hp : p ≤ 1000) (r : Bool) (hr : Hid (allB xss a = r)) :
    Calls Tryz.prog 9 #[.slice A n c, .slice C p f] w (RetQ (.bool r) w) := by
  have hbd := h.bd
  have G := Lib.hid h
  have HA := Lib.hid ha
  have HX := Lib.hid hx
  have hlen := Lib.hid h.len
  clear h ha hx
  go_enter Tryz.func9, Tryz.ntmps9
  go_wp2_with fail
  go_loopw [5] (fun s5 wr => ∃ (i m : Nat), i ≤ n ∧ s5 = .int .i64 i ∧ Hid (wr = w.drewN m) ∧ Hid (allB (xss.drop i) a = r)) (fun i _ => n - (intOf i).toNat)
  case atStart => exact ⟨0, 0, Nat.zero_le _, rfl, rfl, hr⟩
  case round =>
    clear hr
    obtain ⟨i, m, hi, rfl, hwr, hrr⟩ := hrel
    have hbw : Below w.heap.size w wr := by rw [hwr.out]; exact below_drewN _ _
    by_cases hin : i < n
    · obtain ⟨b, off, A', n', c', xs, hAe, hb, hcell, hI, hxk⟩ := (G.out.keep hbw).round hin
      have hxl := Lib.hid (HX.out xs (List.mem_of_getElem? hxk.out))
      have hlx := Lib.hid hI.len
      have hst : Hid ((satB a xs && allB (xss.drop (i + 1)) a) = r) := by have := hrr.out; rw [drop_cons_of hxk.out] at this; exact this
      have u1 : (0 : Int) ≤ (i : Int) := by omega
      have u2 : (i : Int) < (n : Int) := by omega
      have LE : Hid (A = some ⟨b, off, none⟩) := hAe
      obtain ⟨q, hq⟩ : ∃ q, Hid (satB a xs = q) := ⟨_, rfl⟩
      rw [hq.out] at hst
      have HI := Lib.hid hI
      have HBW := Lib.hid hbw
      have hbx := hI.bd
      obtain ⟨wz, hwz⟩ : ∃ z : World, Hid (z = wr) := ⟨_, rfl⟩
      obtain rfl : wz = wr := hwz.out
      subst hAe
      clear hrr hxk hI hbw hwz
      go_wp2_with fail
      go_loopw [6, 7] (fun s6 s7 wr => ∃ (k m2 : Nat) (gd : Bool), k ≤ n' ∧ s6 = .bool gd ∧ s7 = .int .i64 k ∧ Hid (wr = wz.drewN m2) ∧ Hid ((gd || satB a (xs.drop k)) = q)) (fun _ i _ => n' - (intOf i).toNat)
      case atStart => exact ⟨0, 0, false, Nat.zero_le _, rfl, rfl, rfl, by simpa [Hid] using hq.out⟩
      case round =>
        clear hq
        obtain ⟨k, m2, gd, hk, rfl, rfl, hw2, hgd⟩ := hrel
        have hb2 : Below wz.heap.size wz wr := by rw [hw2.out]; exact below_drewN _ _
        have hcell2 := keepBox hb2 hcell
        have zc2 := (cell_lt hcell2).1
        by_cases hkn : k < n'
        · have u3 : (k : Int) < (n' : Int) := by omega
          have u4 : (0 : Int) ≤ (k : Int) := by omega
          obtain ⟨b', off', x, hXe, hb', hcx, x1, x2, hxk⟩ := (HI.out.keep hb2).round hkn
          have hxb := hxl.out.1 x (List.mem_of_getElem? hxk.out)
          have LX : Hid (A' = some ⟨b', off', none⟩) := hXe
          subst hXe
          obtain ⟨r2, hr2⟩ : ∃ r2, Hid (litB a x = r2) := ⟨_, rfl⟩
          have hgd2 : Hid ((gd || (r2 || satB a (xs.drop (k + 1)))) = q) := by
            have := hgd.out
            rw [drop_cons_of hxk.out] at this
            unfold satB at this ⊢
            rw [List.any_cons, hr2.out] at this
            exact this
          clear hgd hxk
          cases gd
          · go_wp2_with fail
            refine (litHolds_any x C p f a wr (HA.out.keep (below_next HBW.out hb2)) ⟨hxb.1, by omega⟩ hp r2 hr2).mono ?_
            rintro e w5 ⟨rfl, m5, hm5⟩
            obtain rfl : w5 = wr.drewN m5 := hm5
            go_wp2_with fail
            go_roundw
            case rel => exact ⟨k + 1, m2 + m5, r2, by omega, rfl, by go_num, by show _ = _; rw [hw2.out, World.drewN_drewN], by have := hgd2.out; simpa [Hid] using this⟩
            case measure => simp [intOf] <;> omega
          · have hgd3 : Hid ((true || satB a (xs.drop (k + 1))) = q) := by have := hgd2.out; simpa [Hid] using this
            go_wp2_with fail
            go_roundw
            case rel => exact ⟨k + 1, m2, true, by omega, rfl, by go_num, hw2, hgd3⟩
            case measure => simp [intOf] <;> omega
        · obtain rfl : gd = q := by have := hgd.out; rw [List.drop_of_length_le (by rw [hlx.out]; omega)] at this; simpa [satB] using this
          cases gd
          · obtain rfl : false = r := by have := hst.out; simpa using this
            clear hgd hst
            go_wp2_with fail
            go_ret
            exact ⟨rfl, m + m2, by rw [hw2.out, hwr.out, World.drewN_drewN]⟩
          · have hst2 : Hid (allB (xss.drop (i + 1)) a = r) := by have := hst.out; simpa [Hid] using this
            clear hgd hst
            go_wp2_with fail
            go_roundw
            case rel => exact ⟨i + 1, m + m2, by omega, by go_num, by show _ = _; rw [hw2.out, hwr.out, World.drewN_drewN], hst2⟩
            case measure => simp [intOf] <;> omega
    · obtain rfl : true = r := by have := hrr.out; rw [List.drop_of_length_le (by rw [hlen.out]; omega)] at this; exact this
      clear hrr
      go_wp2_with fail
      go_ret
      exact ⟨rfl, m, hwr.out⟩
end Go.Proofs.YtlfgcblijfflfaaGreat
