/- TopSubAll: the texts Sure, TopA, TopSubWalk, TopSubLaw in one. -/
import Derived.Test.YtlfgcblijfflfaaGreatCdclAll
import Derived.Test.YtlfgcblijfflfaaGreatKitA
import Derived.Test.YtlfgcblijfflfaaGreatOwn
import Derived.BigQuiet
import Derived.Test.YtlfgcblijfflfaaGreatKitCl
import Derived.Test.YtlfgcblijfflfaaGreatSubAll
import Derived.Test.YtlfgcblijfflfaaGreatRows
import Derived.Test.YtlfgcblijfflfaaGreatOpen
/- Contract of clausesSure: one and its contrary: true. -/
namespace Go.Proofs.YtlfgcblijfflfaaGreat
open Go.RowKit
set_option linter.unusedSimpArgs false

theorem sure_beside : besideR 1 [[1], [-1]] [] = (0, 0) := by decide
theorem sure_none (m : List Bool) (h : allB [[1], [-1]] m = true) : False := by
  unfold allB satB litB at h
  simp at h
theorem answ_sure {w' : World} {st : Int} {hb : Option Addr} {hn hc : Nat} (h : Answ 1 [[1], [-1]] [] 2000 w' st hb hn hc) : st = 2 := by
  rcases h.one with e | e | e
  · obtain ⟨bs, _, _, h1, _⟩ := h.yes e
    exact (sure_none bs h1).elim
  · exact e
  · have := h.out e
    simp at this

set_option maxHeartbeats 2000000 in
theorem sure_any (w : World) : Calls Tryz.prog 8 #[] w (RetV (.bool true) w) := by
  obtain ⟨w1, hw1⟩ : ∃ z : World, z = ((w.alloc (.cells #[.int .i64 1] 3)).alloc (.cells #[.int .i64 (-1)] 3)).alloc (.cells #[.slice (some ⟨w.heap.size, 0, none⟩) 1 1, .slice (some ⟨w.heap.size + 1, 0, none⟩) 1 1] 22) := ⟨_, rfl⟩
  have B1 : Hid (Below w.heap.size w w1) := by rw [hw1]; exact below_alloc (below_alloc (below_new _ _) _) _
  have I1 : Ints ((w.alloc (.cells #[.int .i64 1] 3)).alloc (.cells #[.int .i64 (-1)] 3)) (some ⟨w.heap.size, 0, none⟩) 1 1 [1] := (ints_made w 3 [1] rfl (by simp [I64]) (by simp [maxLen])).keep (below_new _ _)
  have I2 : Ints ((w.alloc (.cells #[.int .i64 1] 3)).alloc (.cells #[.int .i64 (-1)] 3)) (some ⟨w.heap.size + 1, 0, none⟩) 1 1 [-1] := ints_made (w.alloc (.cells #[.int .i64 1] 3)) 3 [-1] (by simp) (by simp [I64]) (by simp [maxLen])
  have G1 : Hid (Grid w1 (some ⟨w.heap.size + 1 + 1, 0, none⟩) 2 2 [[1], [-1]]) := by rw [hw1]; exact grid2 22 (by simp) I1 I2
  have hlt : w.heap.size + 1 + 1 < w1.heap.size := by rw [hw1]; simp
  clear I1 I2
  go_enter Tryz.func8, Tryz.ntmps8
  go_wp2_with fail
  rw [← hw1]
  clear hw1
  refine (cdcl_any _ none 2 2 0 0 [[1], [-1]] [] 1 w1 G1.out (fun h => by cases h) (fun a ha => by cases ha; exact hlt) ⟨Sl_nil w1, by simp⟩ sure_beside 0 0 0 0 ⟨by omega, by omega⟩ ⟨by omega, by omega⟩ ⟨by omega, by omega⟩ ⟨by omega, by omega⟩ 2000 (Nat.le_refl _) core_none).mono ?_
  rintro e w2 ⟨st, hb, hn, hc, S, ns, cs, K, nk, ck, used, rfl, hb2, ha⟩
  obtain rfl := answ_sure ha
  have HB := Lib.hid (below_next B1.out hb2)
  clear ha hb2 B1 hlt
  go_wp2_with fail
  go_ret
  exact ⟨rfl, below_alloc (below_alloc HB.out _) _⟩
end Go.Proofs.YtlfgcblijfflfaaGreat

/- Contracts of bits, LitHolds, ClausesHold. -/
namespace Go.Proofs.YtlfgcblijfflfaaGreat
open Go.RowKit
set_option linter.unusedSimpArgs false

/-- The bits of a number, the lowest first. -/
def bitW : Nat → Nat → List Bool
  | 0, _ => []
  | k + 1, w => (w % 2 == 1) :: bitW k (w / 2)
theorem bitW_len : ∀ k w, (bitW k w).length = k
  | 0, _ => rfl
  | k + 1, w => by simp [bitW, bitW_len k]
theorem bitW_all : ∀ (qs : List Bool), ∃ w, w < 2 ^ qs.length ∧ bitW qs.length w = qs
  | [] => ⟨0, by simp, rfl⟩
  | q :: r => by
    obtain ⟨w, h1, h2⟩ := bitW_all r
    refine ⟨2 * w + q.toNat, ?_, ?_⟩
    · have : (q :: r).length = r.length + 1 := rfl
      rw [this, Nat.pow_succ]
      cases q <;> simp <;> omega
    · have : (q :: r).length = r.length + 1 := rfl
      rw [this, bitW]
      have h3 : (2 * w + q.toNat) / 2 = w := by cases q <;> simp <;> omega
      rw [h3, h2]
      congr 1
      cases q <;> simp [Nat.add_mod]
theorem bitW_at : ∀ (k w i : Nat), i < k → (bitW k w)[i]? = some (w / 2 ^ i % 2 == 1)
  | 0, _, _, h => by omega
  | k + 1, w, 0, _ => by simp [bitW]
  | k + 1, w, i + 1, h => by
    rw [bitW, List.getElem?_cons_succ, bitW_at k (w / 2) i (by omega), Nat.pow_succ, Nat.div_div_eq_div_mul, Nat.mul_comm (2 ^ i) 2]
theorem bit_andW {k i : Nat} (hk : k < 64) : (bits BinOp.and IntKind.i64 ((k : Int) / 2 ^ i) 1 == 1) = (k / 2 ^ i % 2 == 1) := by
  have h0 : ∀ x : Nat, x < 64 → (bits BinOp.and IntKind.i64 (x : Int) 1 == 1) = (x % 2 == 1) := by decide
  have h1 : ((k : Int) / 2 ^ i) = ((k / 2 ^ i : Nat) : Int) := by simp
  rw [h1]
  exact h0 _ (Nat.lt_of_le_of_lt (Nat.div_le_self _ _) hk)
theorem bool_infoA : (Tryz.prog.info? 4).map (fun i => (i.zero, i.size, i.bytes)) = some (some (.bool false), 1, 1) := by kernel_rfl
def RetBools (bs : List Bool) (w : World) (e : Ending) (w' : World) : Prop :=
  ∃ A n c, e = .returned (.slice A n c) ∧ Own 4 w' w.heap.size A n c (bs.map Value.bool) ∧ Below w.heap.size w w'

set_option maxHeartbeats 4000000 in
theorem bits_any (s n : Nat) (w : World) (hs : s < 64) (hn : n ≤ 60) : Calls Tryz.prog 10 #[.int .i64 s, .int .i64 n] w (RetBools (bitW n s) w) := by
  obtain ⟨ib, hib, hz0, hz1, hz2⟩ := info_parts bool_infoA
  have hbl := bitW_len n s
  go_enter Tryz.func10, Tryz.ntmps10
  go_wp2_with fail
  go_loopw [5, 6] (fun s5 s6 wr => ∃ (i : Nat) (A : Option Addr) (c : Nat), i ≤ n ∧ s5 = .slice A i c ∧ s6 = .int .i64 i ∧ Hid (Own 4 wr w.heap.size A i c (((bitW n s).take i).map Value.bool)) ∧ Hid (Below w.heap.size w wr)) (fun _ i _ => n - (intOf i).toNat)
  case atStart => exact ⟨0, none, 0, Nat.zero_le _, rfl, rfl, Own.nil _ _ _, Below.refl _ _⟩
  case round =>
    obtain ⟨i, A, c, hi, rfl, rfl, hO, hB⟩ := hrel
    by_cases hin : i < n
    · have u1 : (i : Int) < (n : Int) := by omega
      have u2 : (0 : Int) ≤ (i : Int) := by omega
      have hq := bit_andW (k := s) (i := i) hs
      have HTK : Hid ((bitW n s).take (i + 1) = (bitW n s).take i ++ [s / 2 ^ i % 2 == 1]) := take_snoc_of (bitW_at n s i hin)
      have hqz := hB.out.size
      obtain ⟨bv, hbv⟩ : ∃ b : Bool, Hid ((s / 2 ^ i % 2 == 1) = b) := ⟨_, rfl⟩
      rw [hbv.out] at hq HTK
      have HSL := Lib.hid (sl_one wr 4 (.bool bv) rfl)
      have HOn := Lib.hid (hO.out.keep (below_new wr (.cells #[.bool bv] 4)))
      go_wp2_with (first
        | (at_builtin
           refine wpList_append_sl _ rfl (.tmp 12) (.tmp 18) _ rfl w.heap.size 4 ib _ 1 Tryz.underlying33 hib hz0 hz1 hz2 rfl A i c _ rfl HOn.out (some ⟨wr.heap.size, 0, none⟩) 1 1 _ rfl HSL.out (by simp [Value.oneCell']) (by simp only [maxLen]; omega) (by omega) (by simp; omega) ?_
           intro L1 cL1 w9 hL1 hg1 hat1
           have HL1 : Hid (Own 4 w9 w.heap.size L1 (i + 1) cL1 (((bitW n s).take (i + 1)).map Value.bool)) := by rw [HTK.out, List.map_append]; exact hL1
           have HB9 := Lib.hid (below_grown (below_alloc hB.out (.cells #[.bool bv] 4)) HOn.out (Nat.le_refl _) hg1)
           clear hL1 hg1 hat1))
      go_roundw
      case rel => exact ⟨i + 1, L1, cL1, by omega, rfl, by go_num, HL1, HB9⟩
      case measure => simp [intOf] <;> omega
    · obtain rfl : i = n := by omega
      have HO2 : Hid (Own 4 wr w.heap.size A i c ((bitW i s).map Value.bool)) := by have := hO.out; rw [List.take_of_length_le (by rw [hbl]; exact Nat.le_refl _)] at this; exact this
      clear hO
      go_wp2_with fail
      go_ret
      exact ⟨A, i, c, rfl, HO2.out, hB.out⟩

theorem litHolds_any (x : Int) (A : Option Addr) (n c : Nat) (a : List Bool) (w : World) (h : Bools w A n c a) (hx : x ≠ 0 ∧ x.natAbs ≤ n) (hn : n ≤ 1000) (r : Bool) (hr : Hid (litB a x = r)) :
    Calls Tryz.prog 30 #[.int .i64 x, .slice A n c] w (RetQ (.bool r) w) := by
  obtain ⟨p, hp⟩ : ∃ p : Nat, x.natAbs = p + 1 := ⟨x.natAbs - 1, by omega⟩
  have hpn : p < n := by omega
  obtain ⟨b, off, v, hAe, hb, hcell, hk⟩ := h.round hpn
  have hr2 : Hid ((v == decide (0 < x)) = r) := by
    have := hr.out
    unfold litB at this
    rw [hp, Nat.add_sub_cancel, hk.out] at this
    exact this
  have hbd := h.bd
  have u1 : (0 : Int) ≤ (p : Int) := by omega
  have u2 : (p : Int) < (n : Int) := by omega
  subst hAe
  by_cases h0 : x < 0
  · have d0 : decide (x < 0) = true := decide_eq_true h0
    have dp : decide (0 < x) = false := decide_eq_false (by omega)
    have ej : -x - 1 = (p : Int) := by omega
    have hr3 : (!v) = r := by have := hr2.out; rw [dp] at this; rw [← this]; cases v <;> rfl
    subst hr3
    clear h hr hr2 hk hp
    go_enter Tryz.func30, Tryz.ntmps30
    go_wp2_with fail
    go_ret
    exact RetQ.of0 rfl
  · have d0 : decide (x < 0) = false := decide_eq_false h0
    have dp : decide (0 < x) = true := decide_eq_true (by omega)
    have ej : x - 1 = (p : Int) := by omega
    have hr3 : v = r := by have := hr2.out; rw [dp] at this; rw [← this]; cases v <;> rfl
    subst hr3
    clear h hr hr2 hk hp
    go_enter Tryz.func30, Tryz.ntmps30
    go_wp2_with fail
    go_ret
    exact RetQ.of0 rfl

set_option maxHeartbeats 4000000 in
set_option maxRecDepth 100000 in
theorem clHold_any (A C : Option Addr) (n c p f : Nat) (xss : List (List Int)) (a : List Bool) (w : World) (h : Grid w A n c xss) (ha : Bools w C p f a) (hx : ∀ x ∈ xss, Lits p x) (hp : p ≤ 1000) (r : Bool) (hr : Hid (allB xss a = r)) :
    Calls Tryz.prog 9 #[.slice A n c, .slice C p f] w (RetQ (.bool r) w) := by
  have hbd := h.bd
  have G := Lib.hid h
  have HA := Lib.hid ha
  have HX := Lib.hid hx
  have hlen := Lib.hid h.len
  clear h ha hx
  go_enter Tryz.func9, Tryz.ntmps9
  go_wp2_with fail
  go_loopw [5] (fun s5 wr => ∃ (i m : Nat), i ≤ n ∧ s5 = .int .i64 i ∧ Hid (wr = w.drewN m) ∧ Hid (allB (xss.drop i) a = r)) (fun i _ => n - (intOf i).toNat)
  case atStart => exact ⟨0, 0, Nat.zero_le _, rfl, rfl, hr⟩
  case round =>
    clear hr
    obtain ⟨i, m, hi, rfl, hwr, hrr⟩ := hrel
    have hbw : Below w.heap.size w wr := by rw [hwr.out]; exact below_drewN _ _
    by_cases hin : i < n
    · obtain ⟨b, off, A', n', c', xs, hAe, hb, hcell, hI, hxk⟩ := (G.out.keep hbw).round hin
      have hxl := Lib.hid (HX.out xs (List.mem_of_getElem? hxk.out))
      have hlx := Lib.hid hI.len
      have hst : Hid ((satB a xs && allB (xss.drop (i + 1)) a) = r) := by have := hrr.out; rw [drop_cons_of hxk.out] at this; exact this
      have u1 : (0 : Int) ≤ (i : Int) := by omega
      have u2 : (i : Int) < (n : Int) := by omega
      have LE : Hid (A = some ⟨b, off, none⟩) := hAe
      obtain ⟨q, hq⟩ : ∃ q, Hid (satB a xs = q) := ⟨_, rfl⟩
      rw [hq.out] at hst
      have HI := Lib.hid hI
      have HBW := Lib.hid hbw
      have hbx := hI.bd
      obtain ⟨wz, hwz⟩ : ∃ z : World, Hid (z = wr) := ⟨_, rfl⟩
      obtain rfl : wz = wr := hwz.out
      subst hAe
      clear hrr hxk hI hbw hwz
      go_wp2_with fail
      go_loopw [6, 7] (fun s6 s7 wr => ∃ (k m2 : Nat) (gd : Bool), k ≤ n' ∧ s6 = .bool gd ∧ s7 = .int .i64 k ∧ Hid (wr = wz.drewN m2) ∧ Hid ((gd || satB a (xs.drop k)) = q)) (fun _ i _ => n' - (intOf i).toNat)
      case atStart => exact ⟨0, 0, false, Nat.zero_le _, rfl, rfl, rfl, by simpa [Hid] using hq.out⟩
      case round =>
        clear hq
        obtain ⟨k, m2, gd, hk, rfl, rfl, hw2, hgd⟩ := hrel
        have hb2 : Below wz.heap.size wz wr := by rw [hw2.out]; exact below_drewN _ _
        have hcell2 := keepBox hb2 hcell
        have zc2 := (cell_lt hcell2).1
        by_cases hkn : k < n'
        · have u3 : (k : Int) < (n' : Int) := by omega
          have u4 : (0 : Int) ≤ (k : Int) := by omega
          obtain ⟨b', off', x, hXe, hb', hcx, x1, x2, hxk⟩ := (HI.out.keep hb2).round hkn
          have hxb := hxl.out.1 x (List.mem_of_getElem? hxk.out)
          have LX : Hid (A' = some ⟨b', off', none⟩) := hXe
          subst hXe
          obtain ⟨r2, hr2⟩ : ∃ r2, Hid (litB a x = r2) := ⟨_, rfl⟩
          have hgd2 : Hid ((gd || (r2 || satB a (xs.drop (k + 1)))) = q) := by
            have := hgd.out
            rw [drop_cons_of hxk.out] at this
            unfold satB at this ⊢
            rw [List.any_cons, hr2.out] at this
            exact this
          clear hgd hxk
          cases gd
          · go_wp2_with fail
            refine (litHolds_any x C p f a wr (HA.out.keep (below_next HBW.out hb2)) ⟨hxb.1, by omega⟩ hp r2 hr2).mono ?_
            rintro e w5 ⟨rfl, m5, hm5⟩
            obtain rfl : w5 = wr.drewN m5 := hm5
            go_wp2_with fail
            go_roundw
            case rel => exact ⟨k + 1, m2 + m5, r2, by omega, rfl, by go_num, by show _ = _; rw [hw2.out, World.drewN_drewN], by have := hgd2.out; simpa [Hid] using this⟩
            case measure => simp [intOf] <;> omega
          · have hgd3 : Hid ((true || satB a (xs.drop (k + 1))) = q) := by have := hgd2.out; simpa [Hid] using this
            go_wp2_with fail
            go_roundw
            case rel => exact ⟨k + 1, m2, true, by omega, rfl, by go_num, hw2, hgd3⟩
            case measure => simp [intOf] <;> omega
        · obtain rfl : gd = q := by have := hgd.out; rw [List.drop_of_length_le (by rw [hlx.out]; omega)] at this; simpa [satB] using this
          cases gd
          · obtain rfl : false = r := by have := hst.out; simpa using this
            clear hgd hst
            go_wp2_with fail
            go_ret
            exact ⟨rfl, m + m2, by rw [hw2.out, hwr.out, World.drewN_drewN]⟩
          · have hst2 : Hid (allB (xss.drop (i + 1)) a = r) := by have := hst.out; simpa [Hid] using this
            clear hgd hst
            go_wp2_with fail
            go_roundw
            case rel => exact ⟨i + 1, m + m2, by omega, by go_num, by show _ = _; rw [hw2.out, hwr.out, World.drewN_drewN], hst2⟩
            case measure => simp [intOf] <;> omega
    · obtain rfl : true = r := by have := hrr.out; rw [List.drop_of_length_le (by rw [hlen.out]; omega)] at this; exact this
      clear hrr
      go_wp2_with fail
      go_ret
      exact ⟨rfl, m, hwr.out⟩
end Go.Proofs.YtlfgcblijfflfaaGreat

/- The walk of TopSub: it returns true. (Printed by wip/tools/topsub.py.) -/
namespace Go.Proofs.YtlfgcblijfflfaaGreat
open Go.RowKit
set_option linter.unusedSimpArgs false

theorem subbed_lits {vars : Int} {xss : List (List Int)} (h : ∀ x ∈ xss, x.length ≤ 24 ∧ Lits vars x) : ∀ x ∈ subbed xss, Lits vars x := fun x hx => ((subF_tidy _ _ (norm_tidy h)).2 x hx).2

set_option maxHeartbeats 8000000 in
set_option maxRecDepth 100000 in
theorem topSub_walk {A : Option Addr} {m d : Nat} {raw : List Int} (w : World) (h : Ints w A m d raw) : Calls Tryz.prog 3 #[.slice A m d] w fun e w' => e = .returned (.bool true) ∧ Below w.heap.size w w' := by
  have H := Lib.hid h
  clear h
  go_enter Tryz.func3, Tryz.ntmps3
  go_wp2_with fail
  refine (cnfOf_any A m d raw 6 14 w H.out (by omega) (by omega) (by omega)).mono ?_
  rintro e w1 ⟨K, k, c, xss, rfl, hO, hX, hk, hb1⟩
  have HG1 := Lib.hid hO.grid
  have HX := Lib.hid hX
  have B1 := Lib.hid hb1
  have hx24 : ∀ x ∈ xss, x.length ≤ 24 ∧ Lits 6 x := fun x hx => ⟨by have := (hX x hx).2; omega, (hX x hx).1⟩
  have hxl : xss.length = k := hO.grid.len
  have hchk : Hid (checkC 6 xss = (0, 0)) := checkC_of (by omega) (by omega) (by omega) hx24
  have hsl : (subbed xss).length ≤ k := by rw [← hxl]; exact subbed_len xss
  have HDL := Lib.hid (subbed_lits hx24)
  have HSA : Hid (∀ a : List Bool, allB (subbed xss) a = allB xss a) := fun a => subbed_all hx24
  have HSL := Lib.hid hsl
  clear hO hX hb1 hx24 hxl hsl
  go_wp2_with fail
  obtain ⟨w2, hw2⟩ : ∃ q : World, q = w1.alloc (.cells #[.int .i64 6, .slice K k c] 25) := ⟨_, rfl⟩
  have hb2 : Below w1.heap.size w1 w2 := by rw [hw2]; exact below_new _ _
  have K2 : Hid (Blk w2 w1.heap.size 25 #[.int .i64 6, .slice K k c]) := by rw [hw2]; exact Blk.new _ _ _
  have HG2 := Lib.hid (HG1.out.keep hb2)
  have B2 := Lib.hid (below_next B1.out hb2)
  rw [← hw2]
  clear hw2 hb2 HG1 B1
  refine (subdo_own K k c xss 6 w2 HG2.out ⟨by omega, by omega⟩ hchk).mono ?_
  rintro e w3 ⟨D, n2, c2, rfl, hD, hb3⟩
  have K3 := Lib.hid (K2.out.keep hb3)
  have HG3 := Lib.hid (HG2.out.keep hb3)
  have B3 := Lib.hid (below_next B2.out hb3)
  have HD3 := Lib.hid hD
  have hn2 : n2 ≤ k := by rw [← hD.len]; exact HSL.out
  obtain ⟨b1, hb1e⟩ : ∃ q : Nat, w1.heap.size = q := ⟨_, rfl⟩
  rw [hb1e] at K3 ⊢
  have q1 := K3.out.cell 1
  simp at q1
  have lt1 := K3.out.lt
  have dn : decide ((k : Int) < (n2 : Int)) = false := decide_eq_false (by omega)
  have dn2 : ¬ (k : Int) < (n2 : Int) := by omega
  have dn3 : decide (k < n2) = false := decide_eq_false (by omega)
  clear hD hb3 HG2 B2 K2 hb1e
  go_wp2_with fail
  obtain ⟨w4, hw4⟩ : ∃ q : World, q = (w3.alloc (.cells #[.int .i64 6, .slice D n2 c2] 25)).alloc (.cells #[.int .i64 0, .int .i64 0] 28) := ⟨_, rfl⟩
  have hb4 : Below w3.heap.size w3 w4 := by rw [hw4]; exact below_alloc (below_new _ _) _
  have K4 := Lib.hid (K3.out.keep hb4)
  have L4 : Hid (Blk w4 w3.heap.size 25 #[.int .i64 6, .slice D n2 c2]) := by rw [hw4]; exact (Blk.new _ _ _).alloc _
  have HG4 := Lib.hid (HG3.out.keep hb4)
  have HD4 := Lib.hid (HD3.out.keep hb4)
  have B4 := Lib.hid (below_next B3.out hb4)
  rw [← hw4]
  clear hw4 hb4 HG3 HD3 B3 K3 q1 lt1
  refine (sure_any w4).mono ?_
  rintro e w5 ⟨rfl, hb5⟩
  have K5 := Lib.hid (K4.out.keep hb5)
  have L5 := Lib.hid (L4.out.keep hb5)
  have HG := Lib.hid (HG4.out.keep hb5)
  have HD := Lib.hid (HD4.out.keep hb5)
  have B5 := Lib.hid (below_next B4.out hb5)
  obtain ⟨b2, hb2e⟩ : ∃ q : Nat, w3.heap.size = q := ⟨_, rfl⟩
  rw [hb2e] at L5 ⊢
  have e1 := K5.out.cell 1
  have e2 := L5.out.cell 1
  simp at e1 e2
  clear hb5 HG4 HD4 B4 K4 L4 hb2e dn dn2 K5 L5
  go_wp2_with fail
  go_loopw [6] (fun s6 wr => ∃ (s : Nat), s ≤ 64 ∧ s6 = .int .i64 s ∧ Hid (Below w5.heap.size w5 wr)) (fun i _ => 64 - (intOf i).toNat)
  case atStart => exact ⟨0, Nat.zero_le _, rfl, Below.refl _ _⟩
  case round =>
    obtain ⟨s, hs, rfl, hB⟩ := hrel
    by_cases hs64 : s < 64
    · have u1 : (s : Int) < 64 := by omega
      obtain ⟨q, hq⟩ : ∃ q, Hid (allB xss (bitW 6 s) = q) := ⟨_, rfl⟩
      have hq2 : Hid (allB (subbed xss) (bitW 6 s) = q) := by show _ = _; rw [HSA.out]; exact hq.out
      go_wp2_with fail
      obtain ⟨wd, hwd⟩ : ∃ q : World, q = wr.drew := ⟨_, rfl⟩
      have hbd : Below wr.heap.size wr wd := by rw [hwd]; exact below_drewN _ 1
      have HBD := Lib.hid (below_next hB.out hbd)
      have hS : wd.cell? ⟨b1, 1, none⟩ = some (.slice K k c) ∧ wd.cell? ⟨b2, 1, none⟩ = some (.slice D n2 c2) := ⟨keepBox HBD.out e1, keepBox HBD.out e2⟩
      have z1 := (cell_lt hS.1).1
      have z2 := (cell_lt hS.2).1
      clear hbd hB
      refine wp_region_tail (fun w' => w'.cell? ⟨b1, 1, none⟩ = some (.slice K k c) ∧ w'.cell? ⟨b2, 1, none⟩ = some (.slice D n2 c2)) [] (by kernel_rfl) ?_
      change wpAnyT _ _ _ _ _ _ _ _ _ wr.drew
      rw [← hwd]
      clear hwd
      refine take0 (i := 0) (oi := _) (v := ?_) rfl (by kernel_rfl) (by kernel_rfl) (by kernel_rfl) (fun _ _ _ h => h) rfl (Or.inl ⟨by rfl, ?_⟩) (fun _ => hS) ?_
      rotate_left
      · intro w0; go_simp; with_reducible rfl
      (try simp only [Act.put, List.setIfInBounds_toArray, List.set_cons_zero, List.set_cons_succ])
      refine takeS (i := 1) (oi := _) (v := ?_) rfl (by kernel_rfl) (by kernel_rfl) (by kernel_rfl) (fun _ _ _ h => h) rfl (by kernel_rfl) (by kernel_rfl) (Or.inl ⟨by rfl, ?_⟩) hS ?_
      rotate_left
      · intro w0 hSw; (try dsimp only at hSw); go_simp; with_reducible rfl
      (try simp only [Act.put, List.setIfInBounds_toArray, List.set_cons_zero, List.set_cons_succ])
      refine take0 (i := 2) (oi := _) (v := ?_) rfl (by kernel_rfl) (by kernel_rfl) (by kernel_rfl) (fun _ _ _ h => h) rfl (Or.inl ⟨by rfl, ?_⟩) (fun _ => hS) ?_
      rotate_left
      · intro w0; go_simp; with_reducible rfl
      (try simp only [Act.put, List.setIfInBounds_toArray, List.set_cons_zero, List.set_cons_succ])
      refine take0 (i := 5) (oi := _) (v := ?_) rfl (by kernel_rfl) (by kernel_rfl) (by kernel_rfl) (fun _ _ _ h => h) rfl (Or.inl ⟨by rfl, ?_⟩) (fun _ => hS) ?_
      rotate_left
      · intro w0; go_simp; with_reducible rfl
      (try simp only [Act.put, List.setIfInBounds_toArray, List.set_cons_zero, List.set_cons_succ])
      refine takeS (i := 6) (oi := _) (v := ?_) rfl (by kernel_rfl) (by kernel_rfl) (by kernel_rfl) (fun _ _ _ h => h) rfl (by kernel_rfl) (by kernel_rfl) (Or.inl ⟨by rfl, ?_⟩) hS ?_
      rotate_left
      · intro w0 hSw; (try dsimp only at hSw); go_simp; with_reducible rfl
      (try simp only [Act.put, List.setIfInBounds_toArray, List.set_cons_zero, List.set_cons_succ])
      refine take0 (i := 7) (oi := _) (v := ?_) rfl (by kernel_rfl) (by kernel_rfl) (by kernel_rfl) (fun _ _ _ h => h) rfl (Or.inl ⟨by rfl, ?_⟩) (fun _ => hS) ?_
      rotate_left
      · intro w0; go_simp; with_reducible rfl
      (try simp only [Act.put, List.setIfInBounds_toArray, List.set_cons_zero, List.set_cons_succ])
      refine oneT (i := 3) (by kernel_rfl) rfl (by rfl) (fun Kq hK => ?_)
      go_simp
      refine (bits_any s 6 wd (by omega) (by omega)).mono ?_
      rintro e w2 ⟨A2, m2, d2, rfl, hO2, hb2⟩
      have hS2 : w2.cell? ⟨b1, 1, none⟩ = some (.slice K k c) ∧ w2.cell? ⟨b2, 1, none⟩ = some (.slice D n2 c2) := ⟨keepBox hb2 hS.1, keepBox hb2 hS.2⟩
      have HB2 := Lib.hid (below_next HBD.out hb2)
      have HO2 := Lib.hid hO2
      have hm2 : m2 = 6 := by have := hO2.len; rw [List.length_map, bitW_len] at this; exact this.symm
      subst hm2
      clear hO2 hb2 HBD hS
      refine hK _ _ (fun _ => hS2) ?_
      clear hK
      (try simp only [Act.put, List.setIfInBounds_toArray, List.set_cons_zero, List.set_cons_succ])
      refine oneT (i := 4) (by kernel_rfl) rfl (by rfl) (fun Kq hK => ?_)
      go_simp
      refine (clHold_any K A2 k c 6 d2 xss (bitW 6 s) w2 (HG.out.keep HB2.out) HO2.out.sl (fun x hx => (HX.out x hx).1) (by omega) q hq).mono ?_
      rintro e w3 ⟨rfl, m3, hm3⟩
      have hb3 : Below w2.heap.size w2 w3 := by rw [hm3]; exact below_drewN _ _
      have hS3 : w3.cell? ⟨b1, 1, none⟩ = some (.slice K k c) ∧ w3.cell? ⟨b2, 1, none⟩ = some (.slice D n2 c2) := ⟨keepBox hb3 hS2.1, keepBox hb3 hS2.2⟩
      have HB3 := Lib.hid (below_next HB2.out hb3)
      clear hb3 HB2 hS2 HO2 hm3
      refine hK _ _ (fun _ => hS3) ?_
      clear hK
      (try simp only [Act.put, List.setIfInBounds_toArray, List.set_cons_zero, List.set_cons_succ])
      refine oneT (i := 8) (by kernel_rfl) rfl (by rfl) (fun Kq hK => ?_)
      go_simp
      refine (bits_any s 6 w3 (by omega) (by omega)).mono ?_
      rintro e w4 ⟨A4, m4, d4, rfl, hO4, hb4⟩
      have hS4 : w4.cell? ⟨b1, 1, none⟩ = some (.slice K k c) ∧ w4.cell? ⟨b2, 1, none⟩ = some (.slice D n2 c2) := ⟨keepBox hb4 hS3.1, keepBox hb4 hS3.2⟩
      have HB4 := Lib.hid (below_next HB3.out hb4)
      have HO4 := Lib.hid hO4
      have hm4 : m4 = 6 := by have := hO4.len; rw [List.length_map, bitW_len] at this; exact this.symm
      subst hm4
      clear hO4 hb4 HB3 hS3
      refine hK _ _ (fun _ => hS4) ?_
      clear hK
      (try simp only [Act.put, List.setIfInBounds_toArray, List.set_cons_zero, List.set_cons_succ])
      refine oneT (i := 9) (by kernel_rfl) rfl (by rfl) (fun Kq hK => ?_)
      go_simp
      refine (clHold_any D A4 n2 c2 6 d4 (subbed xss) (bitW 6 s) w4 (HD.out.keep HB4.out) HO4.out.sl HDL.out (by omega) q hq2).mono ?_
      rintro e w5 ⟨rfl, m5, hm5⟩
      have hb5 : Below w4.heap.size w4 w5 := by rw [hm5]; exact below_drewN _ _
      have hS5 : w5.cell? ⟨b1, 1, none⟩ = some (.slice K k c) ∧ w5.cell? ⟨b2, 1, none⟩ = some (.slice D n2 c2) := ⟨keepBox hb5 hS4.1, keepBox hb5 hS4.2⟩
      have HB5 := Lib.hid (below_next HB4.out hb5)
      clear hb5 HB4 hS4 HO4 hm5
      refine hK _ _ (fun _ => hS5) ?_
      clear hK
      (try simp only [Act.put, List.setIfInBounds_toArray, List.set_cons_zero, List.set_cons_succ])
      refine take0 (i := 10) (oi := _) (v := ?_) rfl (by kernel_rfl) (by kernel_rfl) (by kernel_rfl) (fun _ _ _ h => h) rfl (Or.inl ⟨by rfl, ?_⟩) (fun _ => hS5) ?_
      rotate_left
      · intro w0; go_simp; with_reducible rfl
      (try simp only [Act.put, List.setIfInBounds_toArray, List.set_cons_zero, List.set_cons_succ])
      refine doneT (by kernel_rfl) ?_ _
      have dq : (q != q) = false := by cases q <;> rfl
      clear hS5 hq hq2 z1 z2
      go_wp2_with fail
      go_roundw
      case rel => exact ⟨s + 1, by omega, by go_num, HB5⟩
      case measure => simp [intOf] <;> omega
    · obtain rfl : s = 64 := by omega
      go_wp2_with fail
      go_ret
      exact ⟨rfl, below_next B5.out hB.out⟩
end Go.Proofs.YtlfgcblijfflfaaGreat

/- The law TopSub holds: for every input it returns true, and each argument reads behind the call as it read before. -/
namespace Go.Proofs.YtlfgcblijfflfaaGreat
open Go.ChangeShapes Go.WideShapes Go.ChangeAt Go.RowKit Go.Deep Go.Joins
set_option linter.unusedVariables false

theorem topSub_knob : ownKnob Tryz.prog.godebug = none := by kernel_rfl
theorem topSub_laidOut : laidOutB Tryz.prog = true := by kernel_rfl

set_option maxRecDepth 100000 in
theorem topSub_lifted (os : Os) (started : os.Started) (H : Type) (enc : TypeId × Value → H) :
    ReturnsInHanded {} Tryz.checked os 3 .any (Rows.topSubSpec.pre6 enc Tryz.prog Tryz.f3 Rows.topSubRow.domain false) (Rows.topSubSpec.post enc Tryz.prog Tryz.f3 false true false false) := by
  refine returnsInHanded_of_change (C := Tryz.checked) topSub_knob started (by kernel_rfl) Tryz.func3
    (ChangeSpec.witness6 (enc := enc) (C := Tryz.checked) false ⟨#[], #[.slice none 0 0], []⟩ 8 (by kernel_rfl) (by kernel_rfl) (by kernel_rfl) (by kernel_rfl)) ?_
  intro W base args ds gs before hval0 hW hcnd _
  have hval : ∀ (j : Nat) t v, Tryz.f3.params[j]? = some t → args[j]? = some v → Value.okWide Tryz.prog W .any base t v := hval0
  have hW' := hW
  obtain ⟨p, q, hA0, hV, rfl, hfz, hnd⟩ := hW
  have hA : DataW.TrodAll enc Tryz.prog W 0 (fun _ => true) true Tryz.f3.params.toList args.toList ds p := hA0
  rw [Tryz.params3] at hA hval
  obtain ⟨v0, vs0, d0, ds0, p0, q0, hargs, rfl, rfl, h0, r0⟩ := trodAll_cons hA
  obtain ⟨rfl, rfl, rfl⟩ := trodAll_nil r0
  obtain rfl : args = #[v0] := by cases args; simp_all
  obtain ⟨rfl, rfl⟩ := trodVars_none hV
  have k0 := h0
  have lt0 : ∀ x ∈ p0, x.block < W.heap.size := by obtain ⟨m, hm⟩ := k0; exact DataW.trod_lt m _ _ _ hm
  obtain ⟨A0, n0, c0, rfl⟩ := okWide_slice Tryz.underlying22 (hval 0 22 v0 rfl rfl)
  obtain ⟨fuel0, hf0⟩ := h0
  obtain ⟨B0, m0, e0, x0, eq0, w0⟩ := rd_ints Tryz.underlying22 Tryz.underlying3 (by kernel_rfl) hf0
  cases eq0
  clear hA0 hval0
  refine (topSub_walk _ w0).mono fun e W' ⟨he, bel⟩ => ?_
  subst he
  exact ⟨_, rfl, _, _, _, [], _, [], hW', trodAll_mk1 (shut_bool Tryz.underlying4 _), (trodAll_cons_mk (Below.trod topSub_laidOut (by kernel_rfl) (of_decide_eq_true (by kernel_rfl)) k0 bel lt0) trodAll_mk0), rfl, bel.frame _, fun h => by cases h⟩

/-- THE STATEMENT. -/
theorem topSub_holds : Rows.TopSubSaid :=
  OpenClaim.holds_of_wide 3 Tryz.f3 rfl rfl rfl rfl rfl rfl rfl ⟨rfl, rfl, rfl, rfl, rfl⟩ rfl rfl rfl rfl rfl (by kernel_rfl) Tryz.func3 (by kernel_rfl)
    (of_decide_eq_true (by kernel_rfl)) (by unfold Func.isWrapper; first | (rw [if_pos (by decide +kernel)]; kernel_rfl) | (rw [if_neg (by decide +kernel)]; exact ⟨rfl, rfl⟩))
    (fun os started H enc _ => topSub_lifted os started H enc)
end Go.Proofs.YtlfgcblijfflfaaGreat
