/- TopHeapsAll: the texts Sure, TopA, HeapTop, HHold, Que, SortOwn, CdclCore, HpSt, TopHeapsWalk, TopHeapsLaw in one. -/
import Derived.Test.YtlfgcblijfflfaaGreatCdclAll
import Derived.Test.YtlfgcblijfflfaaGreatKitA
import Derived.Test.YtlfgcblijfflfaaGreatOwn
import Derived.Test.YtlfgcblijfflfaaGreatBitW
import Derived.BigQuiet
import Derived.Test.YtlfgcblijfflfaaGreatHeapAll
import Derived.Test.YtlfgcblijfflfaaGreatBoth
import Derived.Test.YtlfgcblijfflfaaGreatShelf2
import Derived.Test.YtlfgcblijfflfaaGreatRowSort
import Derived.Test.YtlfgcblijfflfaaGreatBoxes
import Derived.Test.YtlfgcblijfflfaaGreatSlices
import Derived.Test.YtlfgcblijfflfaaGreatNodeAll
import Derived.Test.YtlfgcblijfflfaaGreatTail
import Derived.Deep.Cut
import Derived.Test.YtlfgcblijfflfaaGreatRows
import Derived.Test.YtlfgcblijfflfaaGreatOpen
/- Contract of clausesSure: one and its contrary: true. -/
namespace Go.Proofs.YtlfgcblijfflfaaGreat
open Go.RowKit
set_option linter.unusedSimpArgs false

theorem sure_beside : besideR 1 [[1], [-1]] [] = (0, 0) := by decide
theorem sure_none (m : List Bool) (h : allB [[1], [-1]] m = true) : False := by
  unfold allB satB litB at h
  simp at h
theorem answ_sure {w' : World} {st : Int} {hb : Option Addr} {hn hc : Nat} (h : Answ 1 [[1], [-1]] [] 2000 w' st hb hn hc) : st = 2 := by
  rcases h.one with e | e | e
  · obtain ⟨bs, _, _, h1, _⟩ := h.yes e
    exact (sure_none bs h1).elim
  · exact e
  · have := h.out e
    simp at this

set_option maxHeartbeats 2000000 in
theorem sure_any (w : World) : Calls Tryz.prog 8 #[] w (RetV (.bool true) w) := by
  obtain ⟨w1, hw1⟩ : ∃ z : World, z = ((w.alloc (.cells #[.int .i64 1] 3)).alloc (.cells #[.int .i64 (-1)] 3)).alloc (.cells #[.slice (some ⟨w.heap.size, 0, none⟩) 1 1, .slice (some ⟨w.heap.size + 1, 0, none⟩) 1 1] 22) := ⟨_, rfl⟩
  have B1 : Hid (Below w.heap.size w w1) := by rw [hw1]; exact below_alloc (below_alloc (below_new _ _) _) _
  have I1 : Ints ((w.alloc (.cells #[.int .i64 1] 3)).alloc (.cells #[.int .i64 (-1)] 3)) (some ⟨w.heap.size, 0, none⟩) 1 1 [1] := (ints_made w 3 [1] rfl (by simp [I64]) (by simp [maxLen])).keep (below_new _ _)
  have I2 : Ints ((w.alloc (.cells #[.int .i64 1] 3)).alloc (.cells #[.int .i64 (-1)] 3)) (some ⟨w.heap.size + 1, 0, none⟩) 1 1 [-1] := ints_made (w.alloc (.cells #[.int .i64 1] 3)) 3 [-1] (by simp) (by simp [I64]) (by simp [maxLen])
  have G1 : Hid (Grid w1 (some ⟨w.heap.size + 1 + 1, 0, none⟩) 2 2 [[1], [-1]]) := by rw [hw1]; exact grid2 22 (by simp) I1 I2
  have hlt : w.heap.size + 1 + 1 < w1.heap.size := by rw [hw1]; simp
  clear I1 I2
  go_enter Tryz.func8, Tryz.ntmps8
  go_wp2_with fail
  rw [← hw1]
  clear hw1
  refine (cdcl_any _ none 2 2 0 0 [[1], [-1]] [] 1 w1 G1.out (fun h => by cases h) (fun a ha => by cases ha; exact hlt) ⟨Sl_nil w1, by simp⟩ sure_beside 0 0 0 0 ⟨by omega, by omega⟩ ⟨by omega, by omega⟩ ⟨by omega, by omega⟩ ⟨by omega, by omega⟩ 2000 (Nat.le_refl _) core_none).mono ?_
  rintro e w2 ⟨st, hb, hn, hc, S, ns, cs, K, nk, ck, used, rfl, hb2, ha⟩
  obtain rfl := answ_sure ha
  have HB := Lib.hid (below_next B1.out hb2)
  clear ha hb2 B1 hlt
  go_wp2_with fail
  go_ret
  exact ⟨rfl, below_alloc (below_alloc HB.out _) _⟩
end Go.Proofs.YtlfgcblijfflfaaGreat

/- Contracts of bits, LitHolds, ClausesHold. -/
namespace Go.Proofs.YtlfgcblijfflfaaGreat
open Go.RowKit
set_option linter.unusedSimpArgs false

theorem bool_infoA : (Tryz.prog.info? 4).map (fun i => (i.zero, i.size, i.bytes)) = some (some (.bool false), 1, 1) := by kernel_rfl
def RetBools (bs : List Bool) (w : World) (e : Ending) (w' : World) : Prop :=
  ∃ A n c, e = .returned (.slice A n c) ∧ Own 4 w' w.heap.size A n c (bs.map Value.bool) ∧ Below w.heap.size w w'

set_option maxHeartbeats 4000000 in
theorem bits_any (s n : Nat) (w : World) (hs : s < 64) (hn : n ≤ 60) : Calls Tryz.prog 10 #[.int .i64 s, .int .i64 n] w (RetBools (bitW n s) w) := by
  obtain ⟨ib, hib, hz0, hz1, hz2⟩ := info_parts bool_infoA
  have hbl := bitW_len n s
  go_enter Tryz.func10, Tryz.ntmps10
  go_wp2_with fail
  go_loopw [5, 6] (fun s5 s6 wr => ∃ (i : Nat) (A : Option Addr) (c : Nat), i ≤ n ∧ s5 = .slice A i c ∧ s6 = .int .i64 i ∧ Hid (Own 4 wr w.heap.size A i c (((bitW n s).take i).map Value.bool)) ∧ Hid (Below w.heap.size w wr)) (fun _ i _ => n - (intOf i).toNat)
  case atStart => exact ⟨0, none, 0, Nat.zero_le _, rfl, rfl, Own.nil _ _ _, Below.refl _ _⟩
  case round =>
    obtain ⟨i, A, c, hi, rfl, rfl, hO, hB⟩ := hrel
    by_cases hin : i < n
    · have u1 : (i : Int) < (n : Int) := by omega
      have u2 : (0 : Int) ≤ (i : Int) := by omega
      have hq := bit_andW (k := s) (i := i) hs
      have HTK : Hid ((bitW n s).take (i + 1) = (bitW n s).take i ++ [s / 2 ^ i % 2 == 1]) := take_snoc_of (bitW_at n s i hin)
      have hqz := hB.out.size
      obtain ⟨bv, hbv⟩ : ∃ b : Bool, Hid ((s / 2 ^ i % 2 == 1) = b) := ⟨_, rfl⟩
      rw [hbv.out] at hq HTK
      have HSL := Lib.hid (sl_one wr 4 (.bool bv) rfl)
      have HOn := Lib.hid (hO.out.keep (below_new wr (.cells #[.bool bv] 4)))
      go_wp2_with (first
        | (at_builtin
           refine wpList_append_sl _ rfl (.tmp 12) (.tmp 18) _ rfl w.heap.size 4 ib _ 1 Tryz.underlying33 hib hz0 hz1 hz2 rfl A i c _ rfl HOn.out (some ⟨wr.heap.size, 0, none⟩) 1 1 _ rfl HSL.out (by simp [Value.oneCell']) (by simp only [maxLen]; omega) (by omega) (by simp; omega) ?_
           intro L1 cL1 w9 hL1 hg1 hat1
           have HL1 : Hid (Own 4 w9 w.heap.size L1 (i + 1) cL1 (((bitW n s).take (i + 1)).map Value.bool)) := by rw [HTK.out, List.map_append]; exact hL1
           have HB9 := Lib.hid (below_grown (below_alloc hB.out (.cells #[.bool bv] 4)) HOn.out (Nat.le_refl _) hg1)
           clear hL1 hg1 hat1))
      go_roundw
      case rel => exact ⟨i + 1, L1, cL1, by omega, rfl, by go_num, HL1, HB9⟩
      case measure => simp [intOf] <;> omega
    · obtain rfl : i = n := by omega
      have HO2 : Hid (Own 4 wr w.heap.size A i c ((bitW i s).map Value.bool)) := by have := hO.out; rw [List.take_of_length_le (by rw [hbl]; exact Nat.le_refl _)] at this; exact this
      clear hO
      go_wp2_with fail
      go_ret
      exact ⟨A, i, c, rfl, HO2.out, hB.out⟩

theorem litHolds_any (x : Int) (A : Option Addr) (n c : Nat) (a : List Bool) (w : World) (h : Bools w A n c a) (hx : x ≠ 0 ∧ x.natAbs ≤ n) (hn : n ≤ 1000) (r : Bool) (hr : Hid (litB a x = r)) :
    Calls Tryz.prog 30 #[.int .i64 x, .slice A n c] w (RetQ (.bool r) w) := by
  obtain ⟨p, hp⟩ : ∃ p : Nat, x.natAbs = p + 1 := ⟨x.natAbs - 1, by omega⟩
  have hpn : p < n := by omega
  obtain ⟨b, off, v, hAe, hb, hcell, hk⟩ := h.round hpn
  have hr2 : Hid ((v == decide (0 < x)) = r) := by
    have := hr.out
    unfold litB at this
    rw [hp, Nat.add_sub_cancel, hk.out] at this
    exact this
  have hbd := h.bd
  have u1 : (0 : Int) ≤ (p : Int) := by omega
  have u2 : (p : Int) < (n : Int) := by omega
  subst hAe
  by_cases h0 : x < 0
  · have d0 : decide (x < 0) = true := decide_eq_true h0
    have dp : decide (0 < x) = false := decide_eq_false (by omega)
    have ej : -x - 1 = (p : Int) := by omega
    have hr3 : (!v) = r := by have := hr2.out; rw [dp] at this; rw [← this]; cases v <;> rfl
    subst hr3
    clear h hr hr2 hk hp
    go_enter Tryz.func30, Tryz.ntmps30
    go_wp2_with fail
    go_ret
    exact RetQ.of0 rfl
  · have d0 : decide (x < 0) = false := decide_eq_false h0
    have dp : decide (0 < x) = true := decide_eq_true (by omega)
    have ej : x - 1 = (p : Int) := by omega
    have hr3 : v = r := by have := hr2.out; rw [dp] at this; rw [← this]; cases v <;> rfl
    subst hr3
    clear h hr hr2 hk hp
    go_enter Tryz.func30, Tryz.ntmps30
    go_wp2_with fail
    go_ret
    exact RetQ.of0 rfl

set_option maxHeartbeats 4000000 in
set_option maxRecDepth 100000 in
theorem clHold_any (A C : Option Addr) (n c p f : Nat) (xss : List (List Int)) (a : List Bool) (w : World) (h : Grid w A n c xss) (ha : Bools w C p f a) (hx : ∀ x ∈ xss, Lits p x) (hp : p ≤ 1000) (r : Bool) (hr : Hid (allB xss a = r)) :
    Calls Tryz.prog 9 #[.slice A n c, .slice C p f] w (RetQ (.bool r) w) := by
  have hbd := h.bd
  have G := Lib.hid h
  have HA := Lib.hid ha
  have HX := Lib.hid hx
  have hlen := Lib.hid h.len
  clear h ha hx
  go_enter Tryz.func9, Tryz.ntmps9
  go_wp2_with fail
  go_loopw [5] (fun s5 wr => ∃ (i m : Nat), i ≤ n ∧ s5 = .int .i64 i ∧ Hid (wr = w.drewN m) ∧ Hid (allB (xss.drop i) a = r)) (fun i _ => n - (intOf i).toNat)
  case atStart => exact ⟨0, 0, Nat.zero_le _, rfl, rfl, hr⟩
  case round =>
    clear hr
    obtain ⟨i, m, hi, rfl, hwr, hrr⟩ := hrel
    have hbw : Below w.heap.size w wr := by rw [hwr.out]; exact below_drewN _ _
    by_cases hin : i < n
    · obtain ⟨b, off, A', n', c', xs, hAe, hb, hcell, hI, hxk⟩ := (G.out.keep hbw).round hin
      have hxl := Lib.hid (HX.out xs (List.mem_of_getElem? hxk.out))
      have hlx := Lib.hid hI.len
      have hst : Hid ((satB a xs && allB (xss.drop (i + 1)) a) = r) := by have := hrr.out; rw [drop_cons_of hxk.out] at this; exact this
      have u1 : (0 : Int) ≤ (i : Int) := by omega
      have u2 : (i : Int) < (n : Int) := by omega
      have LE : Hid (A = some ⟨b, off, none⟩) := hAe
      obtain ⟨q, hq⟩ : ∃ q, Hid (satB a xs = q) := ⟨_, rfl⟩
      rw [hq.out] at hst
      have HI := Lib.hid hI
      have HBW := Lib.hid hbw
      have hbx := hI.bd
      obtain ⟨wz, hwz⟩ : ∃ z : World, Hid (z = wr) := ⟨_, rfl⟩
      obtain rfl : wz = wr := hwz.out
      subst hAe
      clear hrr hxk hI hbw hwz
      go_wp2_with fail
      go_loopw [6, 7] (fun s6 s7 wr => ∃ (k m2 : Nat) (gd : Bool), k ≤ n' ∧ s6 = .bool gd ∧ s7 = .int .i64 k ∧ Hid (wr = wz.drewN m2) ∧ Hid ((gd || satB a (xs.drop k)) = q)) (fun _ i _ => n' - (intOf i).toNat)
      case atStart => exact ⟨0, 0, false, Nat.zero_le _, rfl, rfl, rfl, by simpa [Hid] using hq.out⟩
      case round =>
        clear hq
        obtain ⟨k, m2, gd, hk, rfl, rfl, hw2, hgd⟩ := hrel
        have hb2 : Below wz.heap.size wz wr := by rw [hw2.out]; exact below_drewN _ _
        have hcell2 := keepBox hb2 hcell
        have zc2 := (cell_lt hcell2).1
        by_cases hkn : k < n'
        · have u3 : (k : Int) < (n' : Int) := by omega
          have u4 : (0 : Int) ≤ (k : Int) := by omega
          obtain ⟨b', off', x, hXe, hb', hcx, x1, x2, hxk⟩ := (HI.out.keep hb2).round hkn
          have hxb := hxl.out.1 x (List.mem_of_getElem? hxk.out)
          have LX : Hid (A' = some ⟨b', off', none⟩) := hXe
          subst hXe
          obtain ⟨r2, hr2⟩ : ∃ r2, Hid (litB a x = r2) := ⟨_, rfl⟩
          have hgd2 : Hid ((gd || (r2 || satB a (xs.drop (k + 1)))) = q) := by
            have := hgd.out
            rw [drop_cons_of hxk.out] at this
            unfold satB at this ⊢
            rw [List.any_cons, hr2.out] at this
            exact this
          clear hgd hxk
          cases gd
          · go_wp2_with fail
            refine (litHolds_any x C p f a wr (HA.out.keep (below_next HBW.out hb2)) ⟨hxb.1, by omega⟩ hp r2 hr2).mono ?_
            rintro e w5 ⟨rfl, m5, hm5⟩
            obtain rfl : w5 = wr.drewN m5 := hm5
            go_wp2_with fail
            go_roundw
            case rel => exact ⟨k + 1, m2 + m5, r2, by omega, rfl, by go_num, by show _ = _; rw [hw2.out, World.drewN_drewN], by have := hgd2.out; simpa [Hid] using this⟩
            case measure => simp [intOf] <;> omega
          · have hgd3 : Hid ((true || satB a (xs.drop (k + 1))) = q) := by have := hgd2.out; simpa [Hid] using this
            go_wp2_with fail
            go_roundw
            case rel => exact ⟨k + 1, m2, true, by omega, rfl, by go_num, hw2, hgd3⟩
            case measure => simp [intOf] <;> omega
        · obtain rfl : gd = q := by have := hgd.out; rw [List.drop_of_length_le (by rw [hlx.out]; omega)] at this; simpa [satB] using this
          cases gd
          · obtain rfl : false = r := by have := hst.out; simpa using this
            clear hgd hst
            go_wp2_with fail
            go_ret
            exact ⟨rfl, m + m2, by rw [hw2.out, hwr.out, World.drewN_drewN]⟩
          · have hst2 : Hid (allB (xss.drop (i + 1)) a = r) := by have := hst.out; simpa [Hid] using this
            clear hgd hst
            go_wp2_with fail
            go_roundw
            case rel => exact ⟨i + 1, m + m2, by omega, by go_num, by show _ = _; rw [hw2.out, hwr.out, World.drewN_drewN], hst2⟩
            case measure => simp [intOf] <;> omega
    · obtain rfl : true = r := by have := hrr.out; rw [List.drop_of_length_le (by rw [hlen.out]; omega)] at this; exact this
      clear hrr
      go_wp2_with fail
      go_ret
      exact ⟨rfl, m, hwr.out⟩
end Go.Proofs.YtlfgcblijfflfaaGreat

/- Drawn sums of literals and the variables asked, plainly: the clauses can hold just if the sum is large enough. -/
namespace Go.Proofs.YtlfgcblijfflfaaGreat
set_option linter.unusedSimpArgs false
set_option linter.unusedVariables false

def litH (raw : List Int) (i : Nat) : Int := if pickF (raw.getD i 0) 2 = 1 then -((i : Int) + 1) else (i : Int) + 1
def wtH (raw : List Int) (i : Nat) : Int := pickF ((raw.getD i 0).tdiv 2) 19 - 9
def askH (a : List Bool) (i : Nat) : Int := if a.getD i false = true then (i : Int) + 1 else -((i : Int) + 1)
def tsH (raw : List Int) (k : Nat) : List (Int × Int) := (List.range k).map fun i => (litH raw i, wtH raw i)
def asH (a : List Bool) (k : Nat) : List Int := (List.range k).map (askH a)
theorem tsH_succ (raw : List Int) (k : Nat) : tsH raw (k + 1) = tsH raw k ++ [(litH raw k, wtH raw k)] := by unfold tsH; rw [List.range_succ, List.map_append]; rfl
theorem asH_succ (a : List Bool) (k : Nat) : asH a (k + 1) = asH a k ++ [askH a k] := by unfold asH; rw [List.range_succ, List.map_append]; rfl
theorem litH_abs (raw : List Int) (i : Nat) : (litH raw i).natAbs = i + 1 := by unfold litH; split <;> omega
theorem askH_abs (a : List Bool) (i : Nat) : (askH a i).natAbs = i + 1 := by unfold askH; split <;> omega
theorem wtH_bd (raw : List Int) (i : Nat) : -9 ≤ wtH raw i ∧ wtH raw i ≤ 9 := by
  unfold wtH
  have := pickF_range ((raw.getD i 0).tdiv 2) (n := 19) (by omega)
  omega
theorem tsH_len (raw : List Int) (k : Nat) : (tsH raw k).length = k := by simp [tsH]
theorem asH_len (a : List Bool) (k : Nat) : (asH a k).length = k := by simp [asH]
theorem range_pair {P : Nat → Nat → Prop} (h : ∀ i j, i < j → P i j) (k : Nat) : (List.range k).Pairwise P := List.pairwise_lt_range.imp fun h9 => h _ _ h9
theorem tsH_up (raw : List Int) : UpT 4 (tsH raw 4) := by
  refine ⟨fun t ht => ?_, List.pairwise_map.2 (range_pair (fun i j h => by rw [litH_abs, litH_abs]; omega) 4)⟩
  obtain ⟨i, hi, rfl⟩ := List.mem_map.1 ht
  have := litH_abs raw i
  have := List.mem_range.1 hi
  simp only
  omega
theorem tsH_bd (raw : List Int) (k : Nat) : ∀ t ∈ tsH raw k, -9 ≤ t.2 ∧ t.2 ≤ 9 := fun t ht => by
  obtain ⟨i, hi, rfl⟩ := List.mem_map.1 ht
  exact wtH_bd raw i
theorem asH_lits (a : List Bool) : Lits 4 (asH a 4) := by
  refine ⟨fun x hx => ?_, List.pairwise_map.2 (range_pair (fun i j h => by rw [askH_abs, askH_abs]; omega) 4)⟩
  obtain ⟨i, hi, rfl⟩ := List.mem_map.1 hx
  have := askH_abs a i
  have := List.mem_range.1 hi
  omega
theorem sumT_congr {m m' : List Bool} : ∀ {ts : List (Int × Int)}, (∀ t ∈ ts, litB m t.1 = litB m' t.1) → sumT m ts = sumT m' ts
  | [], _ => rfl
  | t :: r, h => by
    show (if litB m t.1 = true then t.2 else 0) + sumT m r = (if litB m' t.1 = true then t.2 else 0) + sumT m' r
    rw [h t List.mem_cons_self, sumT_congr (fun x hx => h x (List.mem_cons_of_mem _ hx))]
theorem sumT_app (m : List Bool) : ∀ (l : List (Int × Int)) (t : Int × Int), sumT m (l ++ [t]) = sumT m l + (if litB m t.1 = true then t.2 else 0)
  | [], t => by simp [sumT]
  | x :: r, t => by
    show (if litB m x.1 = true then x.2 else 0) + sumT m (r ++ [t]) = (if litB m x.1 = true then x.2 else 0) + sumT m r + _
    rw [sumT_app m r t]
    omega
theorem sumT_bd {M : Int} (m : List Bool) : ∀ {ts : List (Int × Int)}, (∀ t ∈ ts, -M ≤ t.2 ∧ t.2 ≤ M) → 0 ≤ M → -(M * ts.length) ≤ sumT m ts ∧ sumT m ts ≤ M * ts.length
  | [], _, _ => by simp [sumT]
  | t :: r, h, hM => by
    have ih := sumT_bd m (ts := r) (fun x hx => h x (List.mem_cons_of_mem _ hx)) hM
    have h0 := h t List.mem_cons_self
    have e : M * ((t :: r).length : Int) = M * (r.length : Int) + M := by rw [List.length_cons, Int.natCast_succ, Int.mul_add, Int.mul_one]
    have e2 : sumT m (t :: r) = (if litB m t.1 = true then t.2 else 0) + sumT m r := rfl
    rw [e, e2]
    split <;> omega
/-- Who makes the asked literals true is the assignment, on the first variables. -/
theorem ask_bit {a bs : List Bool} (h : ∀ l ∈ asH a 4, litB bs l = true) {i : Nat} (hi : i < 4) : bs[i]?.getD false = a.getD i false := by
  have h1 := h (askH a i) (List.mem_map.2 ⟨i, List.mem_range.2 hi, rfl⟩)
  unfold litB at h1
  rw [askH_abs, show i + 1 - 1 = i by omega] at h1
  unfold askH at h1
  cases ha : a.getD i false with
  | true =>
    rw [ha] at h1
    have h2 : (decide (0 < (i : Int) + 1)) = true := decide_eq_true (by omega)
    simp only [if_true, h2] at h1
    cases hb : bs[i]?.getD false <;> simp_all
  | false =>
    rw [ha] at h1
    simp only [Bool.false_eq_true, if_false] at h1
    have : (decide (0 < -((i : Int) + 1))) = false := decide_eq_false (by omega)
    rw [this] at h1
    cases hb : bs[i]?.getD false <;> simp_all
theorem ask_lit {a bs : List Bool} (ha : a.length = 4) (h : ∀ l ∈ asH a 4, litB bs l = true) {x : Int} (hx : x ≠ 0 ∧ -4 ≤ x ∧ x ≤ 4) : litB bs x = litB a x := by
  have h1 := ask_bit h (i := x.natAbs - 1) (by omega)
  unfold litB
  rw [h1, List.getD_eq_getElem?_getD]
theorem ask_self {a : List Bool} (ha : a.length = 4) : ∀ l ∈ asH a 4, litB a l = true := fun l hl => by
  obtain ⟨i, hi, rfl⟩ := List.mem_map.1 hl
  have hi := List.mem_range.1 hi
  unfold litB
  rw [askH_abs, show i + 1 - 1 = i by omega, ← List.getD_eq_getElem?_getD]
  unfold askH
  cases h : a.getD i false with
  | true =>
    simp
    try omega
  | false =>
    simp
    try omega
/-- The clauses of a sum with the first variables asked. -/
theorem heaps_law {a : List Bool} (ha : a.length = 4) {ts : List (Int × Int)} (hu : UpT 4 ts) (hl : ts.length ≤ 4) (p : Int) :
    besideR ((clsN (fulF ts p).1 4 (fulF ts p).2).1 : Int) (clsN (fulF ts p).1 4 (fulF ts p).2).2 (asH a 4) = (0, 0) ∧
    (∀ bs : List Bool, allB (clsN (fulF ts p).1 4 (fulF ts p).2).2 bs = true → (∀ l ∈ asH a 4, litB bs l = true) → p ≤ sumT a ts) ∧
    (p ≤ sumT a ts → ∃ m : List Bool, allB (clsN (fulF ts p).1 4 (fulF ts p).2).2 m = true ∧ ∀ l ∈ asH a 4, litB m l = true) := by
  obtain ⟨o1, o2, o3⟩ := ful_ok (a := p) hu
  obtain ⟨c1, c2, c3, c4, c5⟩ := cls_law (ts := (fulF ts p).1) (b := 4) (by omega) o2 (fun t ht => o1.1 t ht) (fulF ts p).2 (by omega)
  have c0 : 4 ≤ (clsN (fulF ts p).1 4 (fulF ts p).2).1 := by unfold clsN; simp
  refine ⟨?_, fun bs hb hq => ?_, fun hs => ?_⟩
  · have h1 := checkC_of (vars := ((clsN (fulF ts p).1 4 (fulF ts p).2).1 : Int)) (xss := (clsN (fulF ts p).1 4 (fulF ts p).2).2) (by omega) (by omega) (by omega) (fun xs hxs => ⟨by have := (c3 xs hxs).1; omega, (c3 xs hxs).2⟩)
    unfold besideR
    rw [h1]
    simp only [ne_eq, not_true_eq_false, if_false]
    have h2 := badF_of_lits ((clsN (fulF ts p).1 4 (fulF ts p).2).1 : Int) (asH a 4) [] ((asH_lits a).wide (by omega)) (by simp)
    unfold listR
    rw [h2]
    simp
  · have h1 := c5 bs hb
    rw [ful_law bs (fun t ht => (hu.1 t ht).1)] at h1
    rw [← sumT_congr (m := bs) (m' := a) (fun t ht => ask_lit ha hq (hu.1 t ht))]
    exact h1
  · obtain ⟨l, hl1, hl2⟩ := c4 a ha ((ful_law a (fun t ht => (hu.1 t ht).1)).2 hs)
    refine ⟨a ++ l, hl2, fun x hx => ?_⟩
    have h9 := (asH_lits a).1 x hx
    rw [litB_ext a l (by rw [ha]; omega) h9.1]
    exact ask_self ha x hx
end Go.Proofs.YtlfgcblijfflfaaGreat

/- Contract of heap.Holds: whether a sum is large enough. -/
namespace Go.Proofs.YtlfgcblijfflfaaGreat
open Go.RowKit
set_option linter.unusedSimpArgs false
set_option linter.unusedVariables false

theorem trueH_any (x : Int) (A : Option Addr) (m d : Nat) (a : List Bool) (w : World) (h : Bools w A m d a) (h0 : x ≠ 0) (h1 : -(m : Int) ≤ x) (h2 : x ≤ m) :
    Calls Tryz.prog 53 #[.int .i64 x, .slice A m d] w (RetQ (.bool (litB a x)) w) := by
  have hbd := h.bd
  obtain ⟨k, hk⟩ : ∃ k : Nat, x.natAbs = k + 1 := ⟨x.natAbs - 1, by omega⟩
  have hkm : k < m := by omega
  obtain ⟨b, off, y, rfl, hb, hcell, hy⟩ := h.round (k := k) hkm
  have HR : Hid (litB a x = (y == decide (0 < x))) := by
    show _ = _
    rw [litB, hk, show k + 1 - 1 = k by omega, hy.out]; rfl
  rw [HR.out]
  clear hy
  go_enter Tryz.func53, Tryz.ntmps53
  go_wp2_with fail
  refine (var_any _ _ (by omega) (by omega)).mono ?_
  rw [hk]
  clear hk
  rintro e w1 ⟨rfl, q, rfl⟩
  have z1 : ((k + 1 : Nat) : Int) = (k : Int) + 1 := by omega
  rw [z1]
  have z2 : (k : Int) < (m : Int) := by omega
  have z3 : (0 : Int) ≤ (k : Int) := by omega
  have z4 : (k : Int) + 1 - 1 = (k : Int) := by omega
  clear z1
  go_wp2_with fail
  go_ret
  exact RetQ.of _ rfl

set_option maxHeartbeats 8000000 in
set_option maxRecDepth 100000 in
theorem holds_any (L O A : Option Addr) (n c d m e : Nat) (ts : List (Int × Int)) (a : Int) (bs : List Bool) (w : World) (h1 : Ints w L n c (ts.map (·.1))) (h2 : Ints w O n d (ts.map (·.2))) (h3 : Bools w A m e bs) (hu : UpT m ts) (hm : m ≤ 120) (hn : n ≤ 24) (hb : ∀ t ∈ ts, -1000 ≤ t.2 ∧ t.2 ≤ 1000) (ha : -10000 ≤ a ∧ a ≤ 10000) :
    Calls Tryz.prog 19 #[.agg #[.slice L n c, .slice O n d, .int .i64 a], .slice A m e] w (RetV (.tuple #[.bool (decide (a ≤ sumT bs ts)), .agg #[.int .i64 0, .int .i64 0]]) w) := by
  have hlen : Hid (ts.length = n) := by have := h1.len; rw [List.length_map] at this; exact this
  have hbd1 := h1.bd
  have hbd2 := h2.bd
  have hbd3 := h3.bd
  obtain ⟨wA, hwA⟩ : ∃ z : World, Hid (z = (w.alloc (.cells #[.slice L n c, .slice O n d, .int .i64 a] 54)).alloc (.cells #[.int .i64 0, .int .i64 0] 28)) := ⟨_, rfl⟩
  obtain ⟨k1, k2, hB, hS⟩ := two_blks (w := w) (wr := wA) (t := 54) (t' := 28) (cs := #[.slice L n c, .slice O n d, .int .i64 a]) (cs' := #[.int .i64 0, .int .i64 0]) (by rw [hwA.out]; exact Below.refl _ _)
  have H1 := Lib.hid (h1.keep hB)
  have H2 := Lib.hid (h2.keep hB)
  have H3 := Lib.hid (h3.keep hB)
  have HU := Lib.hid hu
  have HBD := Lib.hid hb
  have HC := check_heap L O n c d _ _ a m wA H1.out H2.out hn (by omega) (by omega) hu.lits.1 hu.lits.2 (fun o ho => by obtain ⟨t, ht, rfl⟩ := List.mem_map.1 ho; have := hb t ht; omega) (by omega) (by omega)
  have K1 := Lib.hid k1
  have K2 := Lib.hid k2
  have HB := Lib.hid hB
  have c0 := k1.cell 0
  have c1 := k1.cell 1
  have c2 := k1.cell 2
  have cl := k1.lt
  simp at c0 c1 c2
  clear h1 h2 h3 hu hb k1 k2 hB hS
  go_enter Tryz.func19, Tryz.ntmps19
  go_wp2_with fail
  rw [← hwA.out]
  refine HC.mono ?_
  rintro e9 w1 ⟨rfl, hb1⟩
  obtain ⟨w2, hw2⟩ : ∃ z : World, Hid (z = w1.alloc (.cells #[.int .i64 0, .int .i64 0] 28)) := ⟨_, rfl⟩
  have hb2 : Below wA.heap.size wA w2 := by rw [hw2.out]; exact below_next hb1 (below_new _ _)
  have J1 := Lib.hid (K1.out.keep hb2)
  have J2 := Lib.hid (K2.out.keep hb2)
  have HB2 := Lib.hid (below_next HB.out hb2)
  have I1 := Lib.hid (H1.out.keep hb2)
  have I2 := Lib.hid (H2.out.keep hb2)
  have I3 := Lib.hid (H3.out.keep hb2)
  have j1 := K1.out.keep hb1
  have c0 := j1.cell 0
  have c1 := j1.cell 1
  have c2 := j1.cell 2
  have cl := j1.lt
  simp at c0 c1 c2
  clear hb1 hb2 K1 K2 HB H1 H2 H3 HC j1
  go_wp2_with fail
  rw [← hw2.out]
  clear c0 c1 c2 cl
  go_loopw [7, 21] (fun s7 s21 wr => ∃ i : Nat, i ≤ n ∧ s7 = .int .i64 (sumT bs (ts.take i)) ∧ s21 = .int .i64 i ∧ Hid (Below w.heap.size w wr) ∧ Hid (Below w2.heap.size w2 wr)) (fun _ s _ => n - (intOf s).toNat)
  case atStart => exact ⟨0, Nat.zero_le _, rfl, rfl, HB2, Below.refl _ _⟩
  case round =>
    clear HB2
    obtain ⟨i, hi, rfl, rfl, HB2, HD⟩ := hrel
    have hsb := sumT_bd (M := 1000) bs (ts := ts.take i) (fun t ht => HBD.out t (List.mem_of_mem_take ht)) (by omega)
    have hil : (ts.take i).length ≤ 24 := by rw [List.length_take]; omega
    obtain ⟨sm, hsm⟩ : ∃ z, Hid (sumT bs (ts.take i) = z) := ⟨_, rfl⟩
    rw [hsm.out] at hsb
    have hsb2 : -24000 ≤ sm ∧ sm ≤ 24000 := by omega
    rw [hsm.out]
    have K1 := J1.out.keep HD.out
    have c0 := K1.cell 0
    have c1 := K1.cell 1
    have c2 := K1.cell 2
    have cl := K1.lt
    simp at c0 c1 c2
    clear hsb hil
    by_cases hlt : i < n
    · obtain ⟨b1, off1, y, hLe, hb1, hcell, y1, y2, hy⟩ := (I1.out.keep HD.out).round hlt
      obtain ⟨b2, off2, o, hOe, hb2, hcell2, o1, o2, hok⟩ := (I2.out.keep HD.out).round hlt
      have ht : ts[i]? = some (y, o) := by
        have e1 := hy.out
        have e2 := hok.out
        have hil : i < ts.length := by rw [hlen.out]; exact hlt
        rw [List.getElem?_map, List.getElem?_eq_getElem hil] at e1 e2
        rw [List.getElem?_eq_getElem hil]
        simp at e1 e2
        rw [← e1, ← e2]
      have hyb := HU.out.1 _ (List.mem_of_getElem? ht)
      have hob := HBD.out _ (List.mem_of_getElem? ht)
      simp only at hyb hob
      obtain ⟨r, hr⟩ : ∃ z, Hid (litB bs y = z) := ⟨_, rfl⟩
      have HSN : Hid (sumT bs (ts.take (i + 1)) = sm + (if r = true then o else 0)) := by show _ = _; rw [take_snocT ht, sumT_app, hsm.out, hr.out]
      have HTR := trueH_any y A m e bs wr (I3.out.keep HD.out) hyb.1 hyb.2.1 hyb.2.2
      rw [hr.out] at HTR
      have q0 : (0 : Int) ≤ (i : Int) := by omega
      have q1 : (i : Int) < (n : Int) := by omega
      have HC2 := Lib.hid hcell2
      have HOE := Lib.hid hOe
      subst hLe
      clear hy hok ht hOe hcell2
      go_wp2_with fail
      refine HTR.mono ?_
      rintro e9 w5 ⟨rfl, n5, hw5⟩
      have hb5 : Below wr.heap.size wr w5 := by rw [hw5]; exact below_drewN _ _
      have HB5 := Lib.hid (below_next HB2.out hb5)
      have HD5 := Lib.hid (below_next HD.out hb5)
      have K5 := J1.out.keep HD5.out
      have hc5 := keepBox hb5 HC2.out
      have hl5 := (cell_lt hc5).1
      have c0 := K5.cell 0
      have c1 := K5.cell 1
      have c2 := K5.cell 2
      have cl := K5.lt
      rw [HOE.out] at c1
      simp at c0 c1 c2
      clear hb5 HTR K1 hw5 hcell
      cases r
      · go_wp2_with fail
        go_roundw
        case rel => exact ⟨i + 1, by omega, by rw [HSN.out]; simp, by go_num, HB5, HD5⟩
        case measure => simp [intOf] <;> omega
      · have zw : IntKind.i64.wrap (sm + o) = sm + o := IntWalk.i64_in _ (by omega)
        go_wp2_with fail
        go_roundw
        case rel => exact ⟨i + 1, by omega, by rw [HSN.out]; first | (simp; done) | go_num, by go_num, HB5, HD5⟩
        case measure => simp [intOf] <;> omega
    · obtain rfl : i = n := by omega
      have hst : Hid (sumT bs ts = sm) := by rw [← hsm.out, ← hlen.out, List.take_length]; rfl
      have K2 := J2.out.keep HD.out
      have r0 := K2.cell 0
      have r1 := K2.cell 1
      have r2 := K2.frozen 0
      have r3 := K2.frozen 1
      have r4 := K2.lt
      simp at r0 r1
      have Z : Hid ((wr.setCell ⟨w.heap.size + 1, 0, none⟩ (.int .i64 0)).setCell ⟨w.heap.size + 1, 1, none⟩ (.int .i64 0) = wr) := by rw [Hid, setCell_id K2 rfl, setCell_id K2 rfl]
      clear K1 K2
      go_wp2_with fail
      rw [Z.out]
      exact bodyPost_ret (v := .tuple #[.bool (decide (a ≤ sm)), .agg #[.int .i64 0, .int .i64 0]]) (by simp [results, Tryz.results19, go_sem, r0, r1, r4]) rfl ⟨by rw [hst.out], HB2.out⟩
end Go.Proofs.YtlfgcblijfflfaaGreat

/- A queue of the call's own: a slice whose first elements are cut off, one by one, and to which is appended. -/
namespace Go.Proofs.YtlfgcblijfflfaaGreat
open Go.RowKit
set_option linter.unusedSimpArgs false

/-- A slice from the midst of a block of the call's own on, to the block's end. -/
def Que (e : TypeId) (w : World) (base : Nat) (A : Option Addr) (n c : Nat) (xs : List Value) : Prop :=
  xs.length = n ∧ n ≤ c ∧ c ≤ maxLen ∧ ∃ g off cur, A = some ⟨g, off, none⟩ ∧ base ≤ g ∧ w.heap[g]? = some (.cells cur e (0, 0)) ∧ off + c ≤ cur.size ∧ (cur.toList.drop off).take n = xs

section
variable {e : TypeId} {w w' : World} {base n c : Nat} {A : Option Addr} {xs : List Value}
theorem Que.own (h : Own e w base A n c xs) (hA : A ≠ none) : Que e w base A n c xs := by
  rcases h.form with ⟨h0, _⟩ | ⟨g, cur, h0, hg, hh, hnc, hc, hs, ht⟩
  · exact absurd h0 hA
  · exact ⟨h.1.trans (Nat.mul_one _), hnc, hc, g, 0, cur, h0, hg, hh, by omega, by simpa using ht⟩
theorem Que.keep (h : Que e w base A n c xs) (hb : Below w.heap.size w w') : Que e w' base A n c xs := by
  obtain ⟨h1, h2, h3, g, off, cur, h4, h5, h6, h7⟩ := h
  exact ⟨h1, h2, h3, g, off, cur, h4, h5, (hb.block g (Array.getElem?_eq_some_iff.1 h6).1).trans h6, h7⟩
theorem Que.kept {row : Option Nat} (h : Que e w base A n c xs) (hg : w.grownBy w' row) (hne : blockOf A ≠ row) : Que e w' base A n c xs := by
  obtain ⟨h1, h2, h3, g, off, cur, h4, h5, h6, h7⟩ := h
  exact ⟨h1, h2, h3, g, off, cur, h4, h5, (hg.block g (Array.getElem?_eq_some_iff.1 h6).1 (fun e => hne (by rw [h4]; exact e))).trans h6, h7⟩
theorem Que.cell (h : Que e w base A n c xs) {k : Nat} (hk : k < n) : ∃ g off u, A = some ⟨g, off, none⟩ ∧ base ≤ g ∧ g < w.heap.size ∧ w.cell? ⟨g, off + k, none⟩ = some u ∧ w.frozen? ⟨g, off + k, none⟩ = false ∧ xs[k]? = some u := by
  obtain ⟨h1, h2, h3, g, off, cur, h4, h5, h6, h7, h8⟩ := h
  have hx : k < xs.length := by omega
  have hk' : xs[k]? = some xs[k] := List.getElem?_eq_getElem hx
  refine ⟨g, off, xs[k], h4, h5, (Array.getElem?_eq_some_iff.1 h6).1, ?_, ?_, hk'⟩
  · rw [cell_of_row w g _ cur e (0, 0) h6, ← hk', ← h8, List.getElem?_take, if_pos hk, List.getElem?_drop]
    simp
  · simp [World.frozen?, h6]
/-- Without the first one. -/
theorem Que.tail {g off : Nat} {x : Value} (h : Que e w base (some ⟨g, off, none⟩) (n + 1) c (x :: xs)) : Que e w base (some (if c = 1 then ⟨g, off, none⟩ else ⟨g, off + 1, none⟩)) n (c - 1) xs := by
  obtain ⟨h1, h2, h3, g', off', cur, h4, h5, h6, h7, h8⟩ := h
  cases h4
  have hl : xs.length = n := by simpa using h1
  have ht : (cur.toList.drop (off + 1)).take n = xs := by
    have h9 : ((cur.toList.drop off).take (n + 1)).drop 1 = xs := by rw [h8]; rfl
    rw [List.drop_take, List.drop_drop] at h9
    simpa using h9
  by_cases hc : c = 1
  · subst hc
    obtain rfl : n = 0 := by omega
    have hx : xs = [] := List.eq_nil_of_length_eq_zero hl
    subst hx
    exact ⟨rfl, by omega, by omega, g, off, cur, by simp, h5, h6, by omega, by simp⟩
  · exact ⟨hl, by omega, by omega, g, off + 1, cur, by simp [hc], h5, h6, by omega, ht⟩
end

section
variable {P : Program} (w : World)
theorem run_append_room_at (t ty e : TypeId) (i : TypeInfo) (ht : P.underlying t = some (.slice e)) (hi : P.info? e = some i) (hz : i.size = 1)
    (g off sLen sCap : Nat) (cur : Array Value) (hg : w.heap[g]? = some (.cells cur e (0, 0)))
    (a : Addr) (m c : Nat) (news : List Value) (hl : news.length = m) (hnews : ∀ j u, news[j]? = some u → w.cell? (a.add j) = some u) (h1 : ∀ u ∈ news, u.oneCell' = true)
    (hroom : sLen + m ≤ sCap) (hfit : off + sLen + news.length ≤ cur.size) :
    (Builtin.append_ #[t, t] ty #[.slice (some ⟨g, off, none⟩) sLen sCap, .slice (some a) m c]).run P w =
      .ok (.slice (some ⟨g, off, none⟩) (sLen + m) sCap) (w.setRow g (cur.toList.take (off + sLen) ++ news ++ cur.toList.drop (off + sLen + news.length)).toArray) := by
  have hf := run_firstCells_some (P := P) w i.size m a m c news (by rw [hz, Nat.mul_one]; exact hl) hnews
  have hst := run_storeCells_at P g (off + sLen) e news 0 cur w hg (by simpa using hfit) h1
  simp only [Nat.add_zero] at hst
  have ha : (⟨g, off, none⟩ : Addr).add sLen = ⟨g, off + sLen, none⟩ := by
    unfold Addr.add
    by_cases h0 : sLen = 0
    · subst h0; simp
    · simp [h0]
  have hz' := hz
  simp [Builtin.append_, run_underlying ht, sizeOf, typeInfo, hi, hz, Builtin.lenOf, hroom, ha, hst]
  rw [hz] at hf
  simp [hf, hst]
theorem run_append_que (base : Nat) (t ty e : TypeId) (i : TypeInfo) (z : Value) (bytes : Nat) (ht : P.underlying t = some (.slice e)) (hi : P.info? e = some i) (hz : i.zero = some z)
    (hsize : i.size = 1) (hby : i.bytes = bytes) (hzs : z.cells.size = 1)
    (B : Option Addr) (n d : Nat) (xs : List Value) (hown : Que e w base B n d xs)
    (ad : Addr) (m c : Nat) (news : List Value) (hl : news.length = m) (hnews : ∀ j u, news[j]? = some u → w.cell? (ad.add j) = some u) (h1 : ∀ u ∈ news, u.oneCell' = true)
    (h63 : n + m ≤ maxLen) (hbytes : (n + m) * bytes ≤ 140737488355328) (hbase : base ≤ w.heap.size) :
    ∃ B' d' w', (Builtin.append_ #[t, t] ty #[.slice B n d, .slice (some ad) m c]).run P w = .ok (.slice B' (n + m) d') w' ∧ Que e w' base B' (n + m) d' (xs ++ news) ∧ w.grownBy w' (blockOf B) ∧
      (blockOf B' = blockOf B ∨ ∃ k, blockOf B' = some k ∧ w.heap.size ≤ k) := by
  obtain ⟨x1, x2, x3, g, off, cur, rfl, x5, x6, x7, x8⟩ := hown
  by_cases hr : n + m ≤ d
  · have hrun := run_append_room_at (P := P) w t ty e i ht hi hsize g off n d cur x6 ad m c news hl hnews h1 hr (by omega)
    refine ⟨_, _, _, hrun, ⟨by simp [x1, hl], hr, x3, g, off, _, rfl, x5, setRow_heap w g cur _ e _ x6, ?_, ?_⟩, ⟨rfl, rfl, rfl, by simp, fun k _ hk => setRow_other w g k _ (fun e => hk (by simp [blockOf, e]))⟩, .inl rfl⟩
    · simp only [List.size_toArray, List.length_append, List.length_take, List.length_drop, Array.length_toList]
      omega
    · rw [List.append_assoc, List.drop_append_of_le_length (by simp only [List.length_take, Array.length_toList]; omega), List.drop_take, show off + n - off = n by omega, x8, List.take_append, x1, show n + m - n = m by omega, List.take_of_length_le (by omega), List.take_left' hl]
  · have holds : ∀ j u, xs[j]? = some u → w.cell? ((⟨g, off, none⟩ : Addr).add j) = some u := fun j u hu => by
      have hadd : (⟨g, off, none⟩ : Addr).add j = ⟨g, off + j, none⟩ := by
        unfold Addr.add
        by_cases h0 : j = 0
        · subst h0; simp
        · simp [h0]
      rw [hadd, cell_of_row w g _ cur e (0, 0) x6]
      have hj : j < n := by rw [← x1]; exact (List.getElem?_eq_some_iff.1 hu).1
      rw [← x8, List.getElem?_take, if_pos hj, List.getElem?_drop] at hu
      simpa using hu
    obtain ⟨v', w', hrun, h2, h3⟩ := run_append_arg_grows (P := P) w t ty e i z 1 bytes ht hi hz hsize hby hzs (by omega) ⟨g, off, none⟩ n d xs (by omega) holds ad m c news (by omega) hnews (by omega) h63 hbytes
    rcases h2.2 with ⟨hv, hn⟩ | ⟨g', cap', cur', hv, hb', hh', hnc', hcm', hcs', htk'⟩
    · exact absurd hn (by omega)
    · subst hv
      refine ⟨_, _, w', hrun, ⟨by simp [x1, hl], hnc', hcm', g', 0, cur', rfl, Nat.le_trans hbase hb', hh', by omega, by simpa using htk'⟩, ⟨h3.os, h3.tape, h3.output, h3.size, fun k hk _ => h3.block k hk (by simp)⟩, .inr ⟨g', rfl, hb'⟩⟩
end
end Go.Proofs.YtlfgcblijfflfaaGreat

/- Contract of slices.Sort at a row of the call's own. -/
namespace Go.Proofs.YtlfgcblijfflfaaGreat
open Go.RowKit Go.Sort
set_option linter.unusedSimpArgs false
set_option linter.unusedVariables false

def srtI (l : List Int) : List Int := l.mergeSort fun x y => decide (x ≤ y)
theorem srtI_perm (l : List Int) : (srtI l).Perm l := List.mergeSort_perm l _
theorem sort_own_l (base n c : Nat) (A : Option Addr) (l : List Int) (w : World) (h : Own 3 w base A n c (l.map (Value.int .i64))) (hn : n ≤ 1000000) :
    Calls Tryz.prog 67 #[.slice A n c] w fun e w' => e = .returned (.tuple #[]) ∧ (∃ l' : List Int, l'.Perm l ∧ Own 3 w' base A n c (l'.map (Value.int .i64))) ∧ w.grownBy w' (blockOf A) := by
  have hl : l.length = n := by have h1 := h.len; simpa using h1
  rcases h.form with ⟨rfl, rfl, rfl, h0⟩ | ⟨g, cur, rfl, _, hh, _⟩
  · have hl0 : l = [] := by simpa using h0
    subst hl0
    refine (Tryz.slices_Sort_int_none none 0 w).mono ?_
    rintro e w' ⟨rfl, hw⟩
    rw [hw]
    exact ⟨rfl, ⟨[], List.Perm.refl _, by simpa using h⟩, World.grownBy.refl w _⟩
  · have hH := holds_own h (Value.int .i64) l.toArray (by simp)
    have hcon := Tryz.slices_Sort_int g 0 c l w hH (heap_lt hh) (by omega)
    rw [hl] at hcon
    refine hcon.mono ?_
    rintro e w' ⟨rfl, m, os, hw⟩
    have hMl : (srtI l).toArray.size = n := by have := (srtI_perm l).length_eq; simp; omega
    have hown := own_sorted (m := m) h (Value.int .i64) (srtI l).toArray hMl os
    have hw2 : w' = sortWorld (Value.int .i64) w g 0 m (srtI l).toArray os := hw
    rw [← hw2] at hown
    exact ⟨rfl, ⟨srtI l, srtI_perm l, by simpa using hown⟩, by rw [hw2]; exact sortWorld_grown _ _ _ _ _ _⟩
end Go.Proofs.YtlfgcblijfflfaaGreat

/- Contract of cdcl's core: the asked literals that imply the negation of one of them. -/
namespace Go.Proofs.YtlfgcblijfflfaaGreat
open Go.RowKit Go.Maps Go.WideMaps
set_option linter.unusedSimpArgs false
set_option linter.unusedVariables false

theorem wpList_append_que {P : Program} (w : World) {ops : Array Oper} {rest : List Oper} {o : Oper} {a : Act} {Q : Exit → Act → World → Prop} (hgd : o.guard = none) (s x : Operand) (t : TypeId)
    (ho : o.op = .call { callee := .builtin .append, args := #[s, x], argTypes := #[t, t] })
    (base : Nat) (e : TypeId) (i : TypeInfo) (z : Value) (bytes : Nat) (ht : P.underlying t = some (.slice e)) (hi : P.info? e = some i) (hz : i.zero = some z)
    (hsize : i.size = 1) (hby : i.bytes = bytes) (hzs : z.cells.size = 1)
    (B : Option Addr) (n d : Nat) (xs : List Value) (hs : a.eval s = .slice B n d) (hown : Que e w base B n d xs)
    (ad : Addr) (m c : Nat) (news : List Value) (hx : a.eval x = .slice (some ad) m c) (hl : news.length = m) (hr : ∀ j u, news[j]? = some u → w.cell? (ad.add j) = some u) (h1 : ∀ u ∈ news, u.oneCell' = true)
    (h63 : n + m ≤ maxLen) (hbytes : (n + m) * bytes ≤ 140737488355328) (hbase : base ≤ w.heap.size)
    (h : ∀ B' d' w', Que e w' base B' (n + m) d' (xs ++ news) → w.grownBy w' (blockOf B) → (blockOf B' = blockOf B ∨ ∃ k, blockOf B' = some k ∧ w.heap.size ≤ k) → wpList P ops Q rest (a.put o.dst (.slice B' (n + m) d')) w') : wpList P ops Q (o :: rest) a w :=
  wpList_plain hgd fun K hK => by
    obtain ⟨B', d', w', hrun, h2, h3, h4⟩ := run_append_que (P := P) w base t o.type e i z bytes ht hi hz hsize hby hzs B n d xs hown ad m c news hl hr h1 h63 hbytes hbase
    unfold Oper.wp execOp
    simp only [ho, resolve, invoke, builtin, Sem.run_bind, Sem.run_pure, Result.andThen_ok, List.map_toArray, List.map_cons, List.map_nil, hs, hx, hrun]
    exact hK _ _ (h B' d' w' h2 h3 h4)
theorem Que.blk {e : TypeId} {w : World} {base n c : Nat} {A : Option Addr} {xs : List Value} (h : Que e w base A n c xs) : ∃ k, blockOf A = some k ∧ base ≤ k ∧ k < w.heap.size := by
  obtain ⟨_, _, _, g, off, cur, rfl, h5, h6, _⟩ := h
  exact ⟨g, rfl, h5, (Array.getElem?_eq_some_iff.1 h6).1⟩
theorem que_map_ne {e : TypeId} {w : World} {base n c b k : Nat} {A : Option Addr} {xs : List Value} {D : DataW Unit} (h : Que e w base A n c xs) (hm : MapI w b k D) : some b ≠ blockOf A := by
  obtain ⟨_, _, _, g, off, cur, rfl, h5, h6, _⟩ := h
  obtain ⟨es, clock, h1, _⟩ := hm
  intro e
  simp [blockOf] at e
  subst e
  rw [h1] at h6
  cases h6
theorem below_row_ {w wr w' : World} {k : Option Nat} (hB : Below w.heap.size w wr) (hg : wr.grownBy w' k) (hk : ∀ j, k = some j → w.heap.size ≤ j) : Below w.heap.size w w' := hB.grown hg hB.size hk

theorem run_tail {P : Program} {t e : TypeId} {i : TypeInfo} (ht : P.underlying t = some (.slice e)) (hi : P.info? e = some i) (hs : i.size = 1) (g off k c : Nat) (w : World) (hk : k ≤ c) (hc : c < 9223372036854775807) :
    (Instr.slice t (.slice (some ⟨g, off, none⟩) (k + 1) (c + 1)) (some (.int .i64 1)) none none).run P w = .ok (.slice (some (if c = 0 then ⟨g, off, none⟩ else ⟨g, off + 1, none⟩)) k c) w := by
  have h1 : (0 : Int) ≤ 1 ∧ (1 : Int) ≤ ((k + 1 : Nat) : Int) := by omega
  by_cases h0 : c = 0
  · simp [Instr.slice, Instr.sliceBounds, Instr.sliceBound, run_underlying ht, sizeOf, typeInfo, hi, hs, asIntOf, h1, h0, Addr.add]
    intro h9
    omega
  · simp [Instr.slice, Instr.sliceBounds, Instr.sliceBound, run_underlying ht, sizeOf, typeInfo, hi, hs, asIntOf, h1, h0, Addr.add]
    intro h9
    omega
theorem idx_in {t : List Int} {x : Int} (h : x ∈ t) : ∃ p : Nat, idxF (fun y => x == y) t 0 = (p : Int) ∧ p < t.length ∧ t[p]? = some x := by
  rcases idxF_lt (fun y => x == y) t 0 with h1 | ⟨h1, h2, y, h3, h4⟩
  · have := (idxF_none (p := fun y => x == y) (l := t) (i := 0)).1 (by omega) x h
    simp at this
  · refine ⟨(idxF (fun y => x == y) t 0).toNat, by omega, by omega, ?_⟩
    rw [beq_iff_eq] at h4
    subst h4
    simpa using h3

set_option maxHeartbeats 8000000 in
set_option maxRecDepth 100000 in
theorem core_ok (q : List Int) : CoreOk q := by
  intro w0 w h gs g vars Q mq dq ph xss ls A n c L cl Y cy gm D t y V nv cv v z S ns cs l ST SR v0 v1 hlq hlt
  have HT := Lib.hid SR
  have hyl : Hid (y.length = t.length) := SR.hist.1
  have HT64 : Hid (∀ x ∈ t, I64 x) := fun x hx => by have := SR.lits.1 x hx; unfold I64; omega
  have HT6 : Hid (∀ x ∈ t, -1000000 ≤ x ∧ x ≤ 1000000) := fun x hx => by have := SR.lits.1 x hx; omega
  have HTL : Hid (t.length ≤ 1000) := by have := SR.lits.len_le v0; show _ ≤ _; omega
  have hzl := SR.lev_le
  have HV64 : Hid (∀ x ∈ v, I64 x) := fun x hx => by
    obtain ⟨i, hi, e1⟩ := List.getElem_of_mem hx
    have := SR.lev.low i x (by rw [List.getElem?_eq_getElem hi, e1])
    have := HTL.out
    unfold I64; omega
  have hgl := ST.grid.len
  have hgs := ST.grid.bd
  have HY64 : Hid (∀ x ∈ y, I64 x) := fun x hx => by
    obtain ⟨i, hi, e1⟩ := List.getElem_of_mem hx
    have hx1 : y[i]? = some x := by rw [List.getElem?_eq_getElem hi, e1]
    by_cases h0 : 0 ≤ x
    · have hit : i < t.length := by rw [← hyl.out]; exact hi
      obtain ⟨cc, c1, _⟩ := SR.hist.2 i x _ hx1 (List.getElem?_eq_getElem hit) h0
      have h5 := (List.getElem?_eq_some_iff.1 c1).1
      unfold I64; omega
    · have := (SR.lev.new i x hx1 (by omega)).1
      unfold I64; omega
  have HLK := Lib.hid (ST.look HT64.out HY64.out HV64.out (by rw [SR.lev.len, hyl.out]) hyl.out)
  have hl6 : -1000000 ≤ l ∧ l ≤ 1000000 := by have := HT6.out _ hlt; omega
  have HLT := Lib.hid hlt
  have hmm := @run_makeMap Tryz.prog
  obtain ⟨i0, hi0, hz0, hz1, hz2⟩ := info_parts int_info
  obtain ⟨w1, hw1⟩ : ∃ z : World, Hid (z = (w.alloc (.cells #[.int .i64 l] 3)).alloc (.cells #[.int .i64 (-l)] 3)) := ⟨_, rfl⟩
  have hs1 : w1.heap.size = w.heap.size + 1 + 1 := by rw [hw1.out]; simp
  have hb1 : Below w.heap.size w w1 := by rw [hw1.out]; exact below_alloc (below_new _ _) _
  have HO1 : Hid (Own 3 w1 w.heap.size (some ⟨w.heap.size, 0, none⟩) 1 1 ([l].map (Value.int .i64))) := by
    rw [hw1.out]
    exact (own_new 3 w w.heap.size [.int .i64 l] rfl (Nat.le_refl _) (by simp [maxLen])).alloc _
  have HQ1 : Hid (Que 3 w1 w.heap.size (some ⟨w.heap.size + 1, 0, none⟩) 1 1 ([-l].map (Value.int .i64))) := by
    rw [hw1.out]
    exact Que.own (own_new 3 (w.alloc (.cells #[.int .i64 l] 3)) w.heap.size [.int .i64 (-l)] (by simp) (by simp) (by simp [maxLen])) (by simp)
  have HM0 : MapI (w1.alloc (.map #[] 0)) w1.heap.size 0 (.map []) := World.ownsMap_made w1 _ _ _
  have hb2 := below_new w1 (.map #[] 0)
  have hkey0 := keyOf_int_mk (P := Tryz.prog) Tryz.underlying3 (show (Lit.int .i64 (-l)).wf = true from WalkArith.wf_i64 (by omega))
  obtain ⟨w2, hrun, hm2, hg2⟩ := World.ownsMap.update HM0 keyed_int Tryz.underlying91 (by unfold maxLen; omega) hkey0 (plainElem_bool Tryz.underlying4 true)
  have HO2 : Hid (Own 3 w2 w.heap.size (some ⟨w.heap.size, 0, none⟩) 1 1 ([l].map (Value.int .i64))) := (HO1.out.keep hb2).kept hg2 (.inr (by simp [blockOf]; omega))
  have HQ2 : Hid (Que 3 w2 w.heap.size (some ⟨w.heap.size + 1, 0, none⟩) 1 1 ([-l].map (Value.int .i64))) := (HQ1.out.keep hb2).kept hg2 (by simp [blockOf]; omega)
  have HB2 : Hid (Below w.heap.size w w2) := (below_next hb1 hb2).grown hg2 (below_next hb1 hb2).size (fun k hk => by cases hk; omega)
  have HM2 : Hid (MapI w2 (w.heap.size + 1 + 1) 1 (DataW.put (.map []) (.int .i64 (-l)) (.lit (.bool true)))) := by rw [← hs1]; exact hm2
  have HD2 : Hid (MapHas (DataW.put (.map []) (.int .i64 (-l)) (.lit (.bool true))) [-l]) := MapHas.put HM0 (zs := []) (fun x => rfl) (-l)
  have hrun2 := hrun
  rw [hs1, hw1.out] at hrun2
  have HGM : Hid (w.heap.size ≤ w.heap.size + 1 + 1) := by show _ ≤ _; omega
  obtain ⟨gm2, hgm2⟩ : ∃ q, Hid (q = w.heap.size + 1 + 1) := ⟨_, rfl⟩
  have HGM2 : Hid (w.heap.size ≤ gm2) := by show _ ≤ _; rw [hgm2.out]; omega
  clear HO1 HQ1 HM0 hb2 hm2 hg2 hb1 hrun hw1
  go_enter Tryz.func47, Tryz.ntmps47
  go_wp2_with fail
  rw [← hgm2.out] at HM2 ⊢
  go_loopg [5, 6] (2 * t.length + 1) (fun f s5 s6 wr => ∃ (nO cO nT cT : Nat) (O T : Option Addr) (ol tl sl : List Int) (D : DataW Unit), s5 = .slice O nO cO ∧ s6 = .slice T nT cT ∧ Hid (Below w.heap.size w wr) ∧ Hid (Own 3 wr w.heap.size O nO cO (ol.map (Value.int .i64))) ∧ Hid (Que 3 wr w.heap.size T nT cT (tl.map (Value.int .i64))) ∧ Hid (MapI wr gm2 sl.length D) ∧ Hid (MapHas D sl) ∧ Hid (blockOf T ≠ blockOf O) ∧ Hid (ol.Nodup ∧ ∀ x ∈ ol, x ∈ l :: t) ∧ Hid (sl.Nodup ∧ ∀ x ∈ sl, x ∈ t) ∧ Hid (∀ x ∈ tl, x ∈ t) ∧ nT ≤ sl.length ∧ Hid (2 * (t.length - sl.length) + nT ≤ f))
  case atStart =>
    have hpos : 0 < t.length := List.length_pos_of_mem hlt
    exact ⟨1, 1, 1, 1, _, _, [l], [-l], [-l], _, rfl, rfl, HB2, HO2, HQ2, HM2, HD2, by simp [Hid, blockOf], by simp [Hid], by simpa [Hid] using hlt, by simpa [Hid] using hlt, by simp, by show _ ≤ _; simp; omega⟩
  case round =>
    clear HO2 HQ2 HB2 HM2 HD2 hrun2
    obtain ⟨nO, cO, nT, cT, O, T, ol, tl, sl, D, rfl, rfl, HB, HO, HQ, HM, HD, HNE, HOL, HSL, HTL2, hns, HF⟩ := hrel
    have hsl : sl.length ≤ t.length := length_le_of_sub sl t HSL.out.1 HSL.out.2
    have hol : ol.length ≤ t.length + 1 := length_le_of_sub ol (l :: t) HOL.out.1 HOL.out.2
    have hnO : nO ≤ t.length + 1 := by have := HO.out.len; rw [List.length_map] at this; omega
    have htl6 := HTL.out
    by_cases hpos : 0 < nT
    · obtain ⟨gT, offT, u, hTe, hgb, hgl, hcell, hfz, hux⟩ := HQ.out.cell (k := 0) hpos
      obtain ⟨kT, rfl⟩ : ∃ k, nT = k + 1 := ⟨nT - 1, by omega⟩
      obtain ⟨x, tr, rfl⟩ : ∃ x tr, tl = x :: tr := by
        cases tl with
        | nil => simp at hux
        | cons x r => exact ⟨x, r, rfl⟩
      obtain rfl : u = .int .i64 x := by simpa using hux.symm
      have hqb := HQ.out.2.1
      have hqc := HQ.out.2.2.1
      obtain ⟨cT', rfl⟩ : ∃ k, cT = k + 1 := ⟨cT - 1, by omega⟩
      subst hTe
      have hxt : Hid (x ∈ t) := HTL2.out x List.mem_cons_self
      have htr : Hid (∀ x ∈ tr, x ∈ t) := fun y hy => HTL2.out y (List.mem_cons_of_mem _ hy)
      have hx6 := HT6.out x hxt.out
      simp only [Nat.add_zero] at hcell
      have hqt := Que.tail (x := .int .i64 x) (xs := tr.map (Value.int .i64)) (n := kT) (by simpa using HQ.out)
      obtain ⟨T2, hT2⟩ : ∃ q, q = (some (if cT' = 0 then (⟨gT, offT, none⟩ : Addr) else ⟨gT, offT + 1, none⟩)) := ⟨_, rfl⟩
      have hsr := run_tail (P := Tryz.prog) Tryz.underlying22 hi0 hz1 gT offT kT cT' wr (by omega) (by simp only [maxLen] at hqc; omega)
      rw [← hT2] at hsr
      have HQT : Hid (Que 3 wr w.heap.size T2 kT cT' (tr.map (Value.int .i64))) := by rw [hT2]; by_cases h9 : cT' = 0 <;> simpa [Hid, h9] using hqt
      have HNE2 : Hid (blockOf T2 ≠ blockOf O) := by rw [hT2]; by_cases h9 : cT' = 0 <;> simpa [Hid, h9, blockOf] using HNE.out
      have HL := Lib.hid (HLK.out.keep HB.out)
      obtain ⟨p, hp, hpl, hpt⟩ := idx_in hxt.out
      have HP : Hid (idxF (fun y => x == y) t 0 = (p : Int)) := hp
      have HPT := Lib.hid hpt
      obtain ⟨g', L', cl', Y', cy', V', nv', cv', h1, h0, h2, hyy, h3, h4, hY, h5, h6⟩ := HL.out.ex
      have H4 := Lib.hid h4
      have H5 := Lib.hid hY
      have g0 := (cell_lt h1).1
      have g1 := (cell_lt h2).1
      clear hqt hT2 hux h3 h4 hY h5 h6 hp hpt HNE HQ
      go_wp2_with fail
      refine (index_ints L' t.length cl' t x wr H4.out p HP).mono ?_
      rintro e wa ⟨rfl, ma, hma⟩
      have hba : Below wr.heap.size wr wa := by rw [hma]; exact below_drewN _ _
      have HBA := Lib.hid (below_next HB.out hba)
      have HOA := Lib.hid (HO.out.keep hba)
      have HQA := Lib.hid (HQT.out.keep hba)
      have HMA : Hid (MapI wa gm2 sl.length D) := HM.out.keep hba
      have HLA := Lib.hid (HL.out.keep hba)
      have HYA := Lib.hid (H5.out.keep hba)
      replace h1 := keepBox hba h1
      replace h0 := keepBox hba h0
      replace hyy := keepBox hba hyy
      replace g0 := (cell_lt h1).1
      replace g1 := (cell_lt hyy).1
      have hpy : p < y.length := by rw [hyl.out]; exact hpl
      obtain ⟨bY, oY, ky, hYe, hbY, hcY, ky1, ky2, hkk⟩ := HYA.out.round hpy
      have HKK : Hid (y[p]? = some ky) := hkk
      subst hYe
      have zY := (cell_lt hcY).1
      clear hma hba HB HO HQT HM HL h2 H4 H5 hsr hcell hfz hgl hgb hkk
      by_cases hk0 : ky < 0
      · obtain ⟨r, hr⟩ : ∃ r, Hid (hasB ol x = r) := ⟨_, rfl⟩
        have HOI := Lib.hid (HOA.out.ints (fun z hz => by have h9 := HOL.out.2 z hz; rcases List.mem_cons.1 h9 with rfl | h9; unfold I64; omega; exact HT64.out z h9))
        go_wp2_with fail
        refine (contains_ints O nO cO ol x wa HOI.out r hr).mono ?_
        rintro e wb ⟨rfl, mb, hmb⟩
        have hbb : Below wa.heap.size wa wb := by rw [hmb]; exact below_drewN _ _
        have HBB := Lib.hid (below_next HBA.out hbb)
        have HOB := Lib.hid (HOA.out.keep hbb)
        have HQB := Lib.hid (HQA.out.keep hbb)
        have HMB : Hid (MapI wb gm2 sl.length D) := HMA.out.keep hbb
        clear hmb hbb HBA HOA HQA HMA HLA HYA HOI h0 h1 hyy g0 g1 hcY zY
        cases r
        · have hxo : x ∉ ol := fun h9 => by have := hasB_iff.2 h9; rw [hr.out] at this; cases this
          have hsl1 := Lib.hid (sl_one wb 3 (.int .i64 x) rfl)
          have hb4 := below_new wb (.cells #[.int .i64 x] 3)
          have HOn := Lib.hid (HOB.out.keep hb4)
          have HQn := Lib.hid (HQB.out.keep hb4)
          have HMn : Hid (MapI _ gm2 sl.length D) := HMB.out.keep hb4
          have HBn := Lib.hid (below_next HBB.out hb4)
          have hsz := HBn.out.size
          have HB9k : Hid (∃ k, blockOf T2 = some k ∧ k < wb.heap.size) := by obtain ⟨k, e1, _, e2⟩ := HQB.out.blk; exact ⟨k, e1, e2⟩
          clear hb4 HOB HQB HMB
          go_wp2_with (first
            | (at_builtin
               refine wpList_append_sl _ rfl (.tmp 53) (.tmp 55) _ rfl w.heap.size 3 i0 _ 8 Tryz.underlying22 hi0 hz0 hz1 hz2 rfl O nO cO _ rfl HOn.out (some ⟨wb.heap.size, 0, none⟩) 1 1 _ rfl hsl1.out (by simp [Value.oneCell']) (by simp only [maxLen]; omega) (by omega) hsz ?_
               intro O1 cO1 w9 hO1 hg1 hat1
               have HO9 : Hid (Own 3 w9 w.heap.size O1 (nO + 1) cO1 ((ol ++ [x]).map (Value.int .i64))) := by rw [List.map_append]; exact hO1
               have HB9 : Hid (Below w.heap.size w w9) := below_grown HBn.out HOn.out (Nat.le_refl _) hg1
               have HQ9 := Lib.hid (HQn.out.kept hg1 HNE2.out)
               have HM9 : Hid (MapI w9 gm2 sl.length D) := HMn.out.grown hg1 (fun e => own_map_ne HOn.out HMn.out e.symm)
               have HNE9 : Hid (blockOf T2 ≠ blockOf O1) := by
                 rcases hat1 with e | e
                 · rw [Hid, e]; exact HNE2.out
                 · intro e9
                   obtain ⟨k9, e1, e3⟩ := HB9k.out
                   rw [e, e1] at e9
                   simp at e9
                   omega
               clear hO1 hg1 hat1))
          go_roundg (2 * (t.length - sl.length) + kT)
          case measure => have := HF.out; omega
          case rel => exact ⟨nO + 1, cO1, kT, cT', O1, T2, ol ++ [x], tr, sl, D, rfl, rfl, HB9, HO9, HQ9, HM9, HD, HNE9, ⟨List.nodup_append.2 ⟨HOL.out.1, by simp, by intro a ha b hb; rw [List.mem_singleton.1 hb]; exact fun e9 => hxo (e9 ▸ ha)⟩, fun z hz => by rcases List.mem_append.1 hz with hz | hz; exact HOL.out.2 z hz; rw [List.mem_singleton.1 hz]; exact List.mem_cons_of_mem _ hxt.out⟩, HSL, htr, by omega, Nat.le_refl _⟩
        · go_wp2_with fail
          go_roundg (2 * (t.length - sl.length) + kT)
          case measure => have := HF.out; omega
          case rel => exact ⟨nO, cO, kT, cT', O, T2, ol, tr, sl, D, rfl, rfl, HBB, HOB, HQB, HMB, HD, HNE2, HOL, HSL, htr, by omega, Nat.le_refl _⟩
      · obtain ⟨kN, rfl⟩ : ∃ kN : Nat, ky = (kN : Int) := ⟨ky.toNat, by omega⟩
        obtain ⟨cc, hc1, hc2, hc3⟩ := HT.out.hist.2 p _ x HKK.out HPT.out (by omega)
        rw [Int.toNat_natCast] at hc1
        have HCC : Hid (∀ z ∈ cc, z ≠ x → -z ∈ t) := fun z hz hne => List.mem_of_mem_take (hc3 z hz hne)
        have HC6 : Hid (∀ z ∈ cc, -1000000 ≤ z ∧ z ≤ 1000000) := fun z hz => by have := (HT.out.cls cc (List.mem_of_getElem? hc1)).1 z hz; omega
        have HG := HLK.out.grid
        have hkn : kN < n := by rw [← HG.len]; exact (List.getElem?_eq_some_iff.1 hc1).1
        obtain ⟨b3, o3, A3, n3, c3, xs3, hA3, hb3, hcell3, hx3, hxk3⟩ := HG.round hkn
        obtain rfl : cc = xs3 := by have := hxk3.out; rw [hc1] at this; injection this
        have HX3 := Lib.hid hx3
        have h3bd := hx3.bd
        replace hcell3 := keepBox HBA.out hcell3
        subst hA3
        have z3 := (cell_lt hcell3).1
        have hkn2 : (kN : Int) < (n : Int) := by omega
        have hkn3 : (0 : Int) ≤ (kN : Int) := by omega
        clear hc1 hc2 hc3 hx3 hxk3 HG hb3
        go_wp2_with fail
        go_quiet (fail)
        obtain ⟨wb, hwb⟩ : ∃ z : World, z = wa.drewN nq := ⟨_, rfl⟩
        have hbb : Below wa.heap.size wa wb := by rw [hwb]; exact below_drewN _ _
        have HBB := Lib.hid (below_next HBA.out hbb)
        have HOB := Lib.hid (HOA.out.keep hbb)
        have HQB := Lib.hid (HQA.out.keep hbb)
        have HMB : Hid (MapI wb gm2 sl.length D) := HMA.out.keep hbb
        (try rw [← hwb])
        clear hwb hbb HBA HOA HQA HMA HLA HYA h0 h1 hyy g0 g1 hcY zY hcell3 z3 nq
        go_wp2_with fail
        go_loopw [6, 77] (fun s6 s77 wr => ∃ (j nT cT : Nat) (T : Option Addr) (tl sl2 : List Int) (D : DataW Unit), j ≤ n3 ∧ s6 = .slice T nT cT ∧ s77 = .int .i64 j ∧ Hid (Below w.heap.size w wr) ∧ Hid (Own 3 wr w.heap.size O nO cO (ol.map (Value.int .i64))) ∧ Hid (Que 3 wr w.heap.size T nT cT (tl.map (Value.int .i64))) ∧ Hid (MapI wr gm2 sl2.length D) ∧ Hid (MapHas D sl2) ∧ Hid (blockOf T ≠ blockOf O) ∧ Hid (sl2.Nodup ∧ ∀ x ∈ sl2, x ∈ t) ∧ Hid (∀ x ∈ tl, x ∈ t) ∧ nT + 1 ≤ sl2.length ∧ sl.length ≤ sl2.length ∧ nT + sl.length ≤ kT + sl2.length) (fun _ q _ => n3 - (intOf q).toNat)
        case atStart => exact ⟨0, kT, cT', T2, tr, sl, D, Nat.zero_le _, rfl, rfl, HBB, HOB, HQB, HMB, HD, HNE2, HSL, htr, by omega, Nat.le_refl _, Nat.le_refl _⟩
        case round =>
          clear HBB HOB HQB HMB HD HNE2 HSL htr
          obtain ⟨j, nT2, cT2, T3, tl2, sl2, D2, hj, rfl, rfl, HB3, HO3, HQ3, HM3, HD3, HNE3, HSL3, HTR3, hn1, hn2, hn4⟩ := hrel
          have hsl2 : sl2.length ≤ t.length := length_le_of_sub sl2 t HSL3.out.1 HSL3.out.2
          have hq3 := HQ3.out.2.1
          have hq4 := HQ3.out.2.2.1
          by_cases hjn : j < n3
          · have HXr := Lib.hid (HX3.out.keep HB3.out)
            obtain ⟨b, off, yy, hAe, hbb, hcell, y1, y2, hyk⟩ := HXr.out.round hjn
            have hym := List.mem_of_getElem? hyk.out
            have hy6 := HC6.out yy hym
            subst hAe
            by_cases hyx : yy = x
            · have dyx : (yy != x) = false := by rw [hyx]; simp
              have HYX : Hid (yy = x) := hyx
              clear hyx
              go_wp2_with fail
              go_roundw
              case rel => exact ⟨j + 1, nT2, cT2, T3, tl2, sl2, D2, by omega, rfl, by go_num, HB3, HO3, HQ3, HM3, HD3, HNE3, HSL3, HTR3, hn1, hn2, hn4⟩
              case measure => simp [intOf] <;> omega
            · have dyx : (yy != x) = true := by rw [bne_iff_ne]; exact hyx
              have HYT : Hid (-yy ∈ t) := HCC.out yy hym hyx
              have hyi : I64 (-yy) := by unfold I64; omega
              have hlk := look_has HM3.out HD3.out hyi
              obtain ⟨bq, hbq⟩ : ∃ bq, Hid (hasB sl2 (-yy) = bq) := ⟨_, rfl⟩
              rw [hbq.out] at hlk
              clear hyx hyi
              cases bq
              · have hkey := keyOf_int_mk (P := Tryz.prog) Tryz.underlying3 (show (Lit.int .i64 (-yy)).wf = true from WalkArith.wf_i64 (by omega))
                have HNS : Hid (-yy ∉ sl2) := fun h9 => by have := hasB_iff.2 h9; rw [hbq.out] at this; cases this
                have HSL5 : Hid ((sl2 ++ [-yy]).Nodup ∧ ∀ z ∈ sl2 ++ [-yy], z ∈ t) := ⟨List.nodup_append.2 ⟨HSL3.out.1, by simp, by intro a ha b hb; rw [List.mem_singleton.1 hb]; exact fun e9 => HNS.out (e9 ▸ ha)⟩, fun z hz => by rcases List.mem_append.1 hz with hz | hz; exact HSL3.out.2 z hz; rw [List.mem_singleton.1 hz]; exact HYT.out⟩
                have HTR5 : Hid (∀ z ∈ tl2 ++ [-yy], z ∈ t) := fun z hz => by rcases List.mem_append.1 hz with hz | hz; exact HTR3.out z hz; rw [List.mem_singleton.1 hz]; exact HYT.out
                go_wp2_with (first
                  | (at_mapUpdate
                     refine wpList_mapUpdate_own _ rfl _ _ _ 91 rfl 3 4 keyed_int Tryz.underlying91 (plainElem (H := Unit) Tryz.prog 4) gm2 sl2.length D2 rfl HM3.out (by unfold maxLen; omega) _ _ _ rfl rfl hkey _ [] (plainElem_bool Tryz.underlying4 true) ?_
                     intro w5 hown1 hg5
                     have HM5 : MapI w5 gm2 (sl2.length + 1) _ := hown1
                     have HD5 := Lib.hid (MapHas.put HM3.out HD3.out (-yy))
                     have HO5 := Lib.hid (HO3.out.kept hg5 (.inr (own_map_ne HO3.out HM3.out)))
                     have HQ5 := Lib.hid (HQ3.out.kept hg5 (fun e => que_map_ne HQ3.out HM3.out e.symm))
                     have HB5 : Hid (Below w.heap.size w w5) := HB3.out.grown hg5 HB3.out.size (fun k hk => by cases hk; exact HGM2.out)
                     have hb6 := below_new w5 (.cells #[.int .i64 (-yy)] 3)
                     have HM6 : Hid (MapI _ gm2 (sl2.length + 1) _) := Lib.hid (HM5.keep hb6)
                     have HO6 := Lib.hid (HO5.out.keep hb6)
                     have HQ6 := Lib.hid (HQ5.out.keep hb6)
                     have HB6 := Lib.hid (below_next HB5.out hb6)
                     have HCN := Lib.hid (cell_one_new w5 (.int .i64 (-yy)) 3)
                     have HOK : Hid (∀ k, blockOf O = some k → k < (w5.alloc (.cells #[.int .i64 (-yy)] 3)).heap.size) := fun k hk => by
                       rcases HO6.out.form with ⟨e9, _⟩ | ⟨g9, cur9, e9, _, hh9, _⟩
                       · rw [e9] at hk; cases hk
                       · rw [e9] at hk; cases hk; exact heap_lt hh9
                     have hs6 := HB6.out.size
                     clear hown1 hg5 HM5 HO5 HQ5 HB5 hb6)
                  | (at_builtin
                     refine wpList_append_que _ rfl (.tmp 94) (.tmp 97) _ rfl w.heap.size 3 i0 _ 8 Tryz.underlying22 hi0 hz0 hz1 hz2 rfl T3 nT2 cT2 _ rfl HQ6.out ⟨w5.heap.size, 0, none⟩ 1 1 [.int .i64 (-yy)] rfl rfl HCN.out (by simp [Value.oneCell']) (by simp only [maxLen]; omega) (by omega) hs6 ?_
                     intro T5 cT5 w9 hQ9 hg9 hat9
                     have HQ9 : Hid (Que 3 w9 w.heap.size T5 (nT2 + 1) cT5 ((tl2 ++ [-yy]).map (Value.int .i64))) := by rw [List.map_append]; exact hQ9
                     have HO9 := Lib.hid (HO6.out.kept hg9 (.inr (fun e => HNE3.out e.symm)))
                     have HM9 : Hid (MapI w9 gm2 (sl2.length + 1) _) := Lib.hid (MapI.grown HM6.out hg9 (que_map_ne HQ6.out HM6.out))
                     have HB9 : Hid (Below w.heap.size w w9) := HB6.out.grown hg9 HB6.out.size (fun k hk => by obtain ⟨k9, e1, e2, _⟩ := HQ6.out.blk; rw [e1] at hk; cases hk; exact e2)
                     have HNE9 : Hid (blockOf T5 ≠ blockOf O) := by
                       rcases hat9 with e | ⟨k9, e, hk9⟩
                       · rw [Hid, e]; exact HNE3.out
                       · intro e9
                         rw [e] at e9
                         have := HOK.out k9 e9.symm
                         omega
                     clear hQ9 hg9 hat9))
                go_roundw
                case rel => exact ⟨j + 1, nT2 + 1, cT5, T5, tl2 ++ [-yy], sl2 ++ [-yy], _, by omega, rfl, by go_num, HB9, HO9, HQ9, by rw [List.length_append]; exact HM9, HD5, HNE9, HSL5, HTR5, by simp; omega, by simp; omega, by simp; omega⟩
                case measure => simp [intOf] <;> omega
              · go_wp2_with fail
                go_roundw
                case rel => exact ⟨j + 1, nT2, cT2, T3, tl2, sl2, D2, by omega, rfl, by go_num, HB3, HO3, HQ3, HM3, HD3, HNE3, HSL3, HTR3, hn1, hn2, hn4⟩
                case measure => simp [intOf] <;> omega
          · go_wp2_with fail
            go_roundg (2 * (t.length - sl2.length) + nT2)
            case measure => have := HF.out; omega
            case rel => exact ⟨nO, cO, nT2, cT2, O, T3, ol, tl2, sl2, D2, rfl, rfl, HB3, HO3, HQ3, HM3, HD3, HNE3, HOL, HSL3, HTR3, by omega, Nat.le_refl _⟩
    · have hn0 : nO ≤ 1000000 := by omega
      have hOL6 : Hid (∀ z ∈ ol, -1000000 ≤ z ∧ z ≤ 1000000) := fun z hz => by
        rcases List.mem_cons.1 (HOL.out.2 z hz) with rfl | h9
        · omega
        · exact HT6.out z h9
      clear HQ HM HD HNE HTL2 HF HSL HOL HLK
      go_wp2_with fail
      refine (sort_own_l w.heap.size nO cO O ol wr HO.out hn0).mono ?_
      rintro e wz ⟨rfl, ⟨l', hp, hO'⟩, hg'⟩
      have HB9 := Lib.hid (below_grown HB.out HO.out (Nat.le_refl _) hg')
      have HO9 := Lib.hid hO'
      have HP9 := Lib.hid hp
      clear hO' hp hg' HO HB
      go_wp2_with fail
      go_ret
      have h6 : ∀ z ∈ l', -1000000 ≤ z ∧ z ≤ 1000000 := fun z hz => hOL6.out z ((HP9.out.mem_iff).1 hz)
      exact ⟨O, nO, cO, l', rfl, HO9.out.ints (fun z hz => by have := h6 z hz; unfold I64; omega), h6, hn0, HB9.out⟩
end Go.Proofs.YtlfgcblijfflfaaGreat

/- What the loop of TopHeaps knows: the sum's box, the asked literals, the drawn bools. -/
namespace Go.Proofs.YtlfgcblijfflfaaGreat
open Go.RowKit
set_option linter.unusedSimpArgs false
set_option linter.unusedVariables false

structure HpSt (w W : World) (b9 : Nat) (Q : Option Addr) (nq dq : Nat) (L : Option Addr) (nl dl : Nat) (O : Option Addr) (no do_ : Nat) (p : Int) (qs ls os : List Int) (B : Option Addr) (cb : Nat) (bs : List Bool) : Prop where
  bl : Below w.heap.size w W
  lo : w.heap.size ≤ b9
  bx : Blk W b9 54 #[.slice L nl dl, .slice O no do_, .int .i64 p]
  q : Own 3 W w.heap.size Q nq dq (qs.map (Value.int .i64))
  l : Own 3 W w.heap.size L nl dl (ls.map (Value.int .i64))
  o : Own 3 W w.heap.size O no do_ (os.map (Value.int .i64))
  ql : Dif Q L
  qo : Dif Q O
  lo_ : Dif L O
  b : Own 4 W w.heap.size B 4 cb (bs.map Value.bool)
section
variable {w W W' W2 : World} {b9 : Nat} {Q : Option Addr} {nq dq : Nat} {L : Option Addr} {nl dl : Nat} {O : Option Addr} {no do_ : Nat} {p : Int} {qs ls os : List Int} {B : Option Addr} {cb : Nat} {bs : List Bool}
theorem HpSt.keep (h : HpSt w W b9 Q nq dq L nl dl O no do_ p qs ls os B cb bs) (hb : Below W.heap.size W W') : HpSt w W' b9 Q nq dq L nl dl O no do_ p qs ls os B cb bs :=
  ⟨below_next h.bl hb, h.lo, h.bx.keep hb, h.q.keep hb, h.l.keep hb, h.o.keep hb, h.ql, h.qo, h.lo_, h.b.keep hb⟩
theorem HpSt.growQ {Q2 : Option Addr} {dq2 : Nat} {x : Int} (h : HpSt w W b9 Q nq dq L nl dl O no do_ p qs ls os B cb bs) (h2 : Own 3 W' w.heap.size Q2 (nq + 1) dq2 (qs.map (Value.int .i64) ++ [.int .i64 x])) (hg : W.grownBy W' (blockOf Q)) (hm : blockOf Q2 = blockOf Q ∨ blockOf Q2 = some W.heap.size) :
    HpSt w W' b9 Q2 (nq + 1) dq2 L nl dl O no do_ p (qs ++ [x]) ls os B cb bs :=
  ⟨below_grown h.bl h.q (Nat.le_refl _) hg, h.lo, h.bx.ownGrown h.q hg (by decide), by rw [List.map_append]; exact h2, h.l.kept hg h.ql.symm, h.o.kept hg h.qo.symm, h.ql.moved h.l hm, h.qo.moved h.o hm, h.lo_, h.b.kept hg (own_ne h.b h.q (by decide))⟩
theorem HpSt.growL {L2 : Option Addr} {dl2 : Nat} {x : Int} (h : HpSt w W b9 Q nq dq L nl dl O no do_ p qs ls os B cb bs) (h2 : Own 3 W' w.heap.size L2 (nl + 1) dl2 (ls.map (Value.int .i64) ++ [.int .i64 x])) (hg : W.grownBy W' (blockOf L)) (hm : blockOf L2 = blockOf L ∨ blockOf L2 = some W.heap.size)
    (hW2 : W2 = W'.setCell ⟨b9, 0, none⟩ (.slice L2 (nl + 1) dl2)) : HpSt w W2 b9 Q nq dq L2 (nl + 1) dl2 O no do_ p qs (ls ++ [x]) os B cb bs := by
  have hB := h.bx.ownGrown h.l hg (by decide)
  have hbl := below_grown h.bl h.l (Nat.le_refl _) hg
  have hq := h.q.kept hg h.ql
  have ho := h.o.kept hg h.lo_.symm
  have hb := h.b.kept hg (own_ne h.b h.l (by decide))
  subst hW2
  refine ⟨hbl.setCell (p := ⟨b9, 0, none⟩) h.lo _, h.lo, ?_, hq.typedSet hB (by decide) 0 _, by rw [List.map_append]; exact h2.typedSet hB (by decide) 0 _, ho.typedSet hB (by decide) 0 _, Dif.symm (h.ql.symm.moved h.q hm), h.qo, h.lo_.moved h.o hm, hb.typedSet hB (by decide) 0 _⟩
  have := hB.set_ 0 (.slice L2 (nl + 1) dl2)
  simpa using this
theorem HpSt.growO {O2 : Option Addr} {d2 : Nat} {x : Int} (h : HpSt w W b9 Q nq dq L nl dl O no do_ p qs ls os B cb bs) (h2 : Own 3 W' w.heap.size O2 (no + 1) d2 (os.map (Value.int .i64) ++ [.int .i64 x])) (hg : W.grownBy W' (blockOf O)) (hm : blockOf O2 = blockOf O ∨ blockOf O2 = some W.heap.size)
    (hW2 : W2 = W'.setCell ⟨b9, 1, none⟩ (.slice O2 (no + 1) d2)) : HpSt w W2 b9 Q nq dq L nl dl O2 (no + 1) d2 p qs ls (os ++ [x]) B cb bs := by
  have hB := h.bx.ownGrown h.o hg (by decide)
  have hbl := below_grown h.bl h.o (Nat.le_refl _) hg
  have hq := h.q.kept hg h.qo
  have hl := h.l.kept hg h.lo_
  have hb := h.b.kept hg (own_ne h.b h.o (by decide))
  subst hW2
  refine ⟨hbl.setCell (p := ⟨b9, 1, none⟩) h.lo _, h.lo, ?_, hq.typedSet hB (by decide) 1 _, hl.typedSet hB (by decide) 1 _, by rw [List.map_append]; exact h2.typedSet hB (by decide) 1 _, h.ql, Dif.symm (h.qo.symm.moved h.q hm), Dif.symm (h.lo_.symm.moved h.l hm), hb.typedSet hB (by decide) 1 _⟩
  have := hB.set_ 1 (.slice O2 (no + 1) d2)
  simpa using this
end
/-- The search's answer and the sum are at one. -/
theorem heaps_answ {a : List Bool} (ha : a.length = 4) {ts : List (Int × Int)} (hu : UpT 4 ts) (hl : ts.length ≤ 4) (p : Int) {cl : Nat × List (List Int)} (hcl : clsN (fulF ts p).1 4 (fulF ts p).2 = cl) {fuel : Nat} {W : World} {st : Int} {hb : Option Addr} {hn hc : Nat} (h : Answ (cl.1 : Int) cl.2 (asH a 4) fuel W st hb hn hc) :
    (st = 1 ∧ decide (p ≤ sumT a ts) = true) ∨ (st = 2 ∧ decide (p ≤ sumT a ts) = false) ∨ st = 3 := by
  obtain ⟨_, h1, h2⟩ := heaps_law ha hu hl p
  rw [hcl] at h1 h2
  rcases h.one with e | e | e
  · left
    obtain ⟨bs, _, _, h3, h4⟩ := h.yes e
    exact ⟨e, decide_eq_true (h1 bs h3 h4)⟩
  · right; left
    refine ⟨e, decide_eq_false (fun h3 => ?_)⟩
    obtain ⟨m, m1, m2⟩ := h2 h3
    exact h.no e m m1 m2
  · exact .inr (.inr e)
end Go.Proofs.YtlfgcblijfflfaaGreat

/- The walk of TopHeaps: it returns true. (Printed by wip/tools/topheaps.py.) -/
namespace Go.Proofs.YtlfgcblijfflfaaGreat
open Go.RowKit
set_option linter.unusedSimpArgs false
set_option linter.unusedVariables false

theorem threeT_ {P : Program} {ops : Array Oper} {Q : Exit → Act → World → Prop} {md : Region.Mode} {S : World → Prop} {ts : List Nat} {i j k : Nat} {o u x : Oper} {fuel : Nat} {listed : Array Bool} {a : Act} {w : World} (hr : Region.ready md ops listed = [i, j, k]) (hi : ops[i]? = some o) (hw : Region.wanted o (yielded ops a.tmps) = true) (hj : ops[j]? = some u) (hu : Region.wanted u (yielded ops a.tmps) = true) (hk : ops[k]? = some x) (hx : Region.wanted x (yielded ops a.tmps) = true)
    (h : ∀ K : Act → World → Prop, (∀ a' w', (noT ts (listed.setIfInBounds i true) = true → S w') → wpAnyT P md ops Q S ts fuel (listed.setIfInBounds i true) a' w' → K a' w') → o.wp P a w K Q)
    (h' : ∀ K : Act → World → Prop, (∀ a' w', (noT ts (listed.setIfInBounds j true) = true → S w') → wpAnyT P md ops Q S ts fuel (listed.setIfInBounds j true) a' w' → K a' w') → u.wp P a w K Q)
    (h'' : ∀ K : Act → World → Prop, (∀ a' w', (noT ts (listed.setIfInBounds k true) = true → S w') → wpAnyT P md ops Q S ts fuel (listed.setIfInBounds k true) a' w' → K a' w') → x.wp P a w K Q) : wpAnyT P md ops Q S ts (fuel + 1) listed a w :=
  allT hr (by simp) fun l hl => by
    simp at hl
    rcases hl with rfl | rfl | rfl
    · unfold wpOp
      simp only [hi, hw, if_true]
      exact .inl (h _ fun _ _ h1 h2 => ⟨h1, h2⟩)
    · unfold wpOp
      simp only [hj, hu, if_true]
      exact .inl (h' _ fun _ _ h1 h2 => ⟨h1, h2⟩)
    · unfold wpOp
      simp only [hk, hx, if_true]
      exact .inl (h'' _ fun _ _ h1 h2 => ⟨h1, h2⟩)
theorem put5 {w wr : World} {B b2 b3 : Nat} (K3 : Blk wr b2 46 #[.int .i64 0, .slice none 0 0, .slice none 0 0, .slice none 0 0, .int .i64 0]) (K4 : Blk wr b3 28 #[.int .i64 0, .int .i64 0]) (hne : b2 ≠ b3) (hb : Below B w wr) (h2 : B ≤ b2) (v0 v1 v2 v3 v4 : Value) :
    Blk (((((wr.setCell ⟨b2, 0, none⟩ v0).setCell ⟨b2, 1, none⟩ v1).setCell ⟨b2, 2, none⟩ v2).setCell ⟨b2, 3, none⟩ v3).setCell ⟨b2, 4, none⟩ v4) b2 46 #[v0, v1, v2, v3, v4] ∧
    Blk (((((wr.setCell ⟨b2, 0, none⟩ v0).setCell ⟨b2, 1, none⟩ v1).setCell ⟨b2, 2, none⟩ v2).setCell ⟨b2, 3, none⟩ v3).setCell ⟨b2, 4, none⟩ v4) b3 28 #[.int .i64 0, .int .i64 0] ∧
    Below B w (((((wr.setCell ⟨b2, 0, none⟩ v0).setCell ⟨b2, 1, none⟩ v1).setCell ⟨b2, 2, none⟩ v2).setCell ⟨b2, 3, none⟩ v3).setCell ⟨b2, 4, none⟩ v4) := by
  have hne' : b3 ≠ b2 := fun e => hne e.symm
  refine ⟨?_, ?_, ?_⟩
  · have := ((((K3.set_ 0 v0).set_ 1 v1).set_ 2 v2).set_ 3 v3).set_ 4 v4
    simpa using this
  · have := ((((K4.far (p := ⟨b2, 0, none⟩) hne' v0).far (p := ⟨b2, 1, none⟩) hne' v1).far (p := ⟨b2, 2, none⟩) hne' v2).far (p := ⟨b2, 3, none⟩) hne' v3).far (p := ⟨b2, 4, none⟩) hne' v4
    simpa using this
  · exact ((((hb.setCell (p := ⟨b2, 0, none⟩) h2 _).setCell (p := ⟨b2, 1, none⟩) h2 _).setCell (p := ⟨b2, 2, none⟩) h2 _).setCell (p := ⟨b2, 3, none⟩) h2 _).setCell (p := ⟨b2, 4, none⟩) h2 _
theorem put2_ {w wr : World} {B b2 b3 : Nat} {cs : Array Value} (K3 : Blk wr b2 46 cs) (K4 : Blk wr b3 28 #[.int .i64 0, .int .i64 0]) (hne : b2 ≠ b3) (hb : Below B w wr) (h3 : B ≤ b3) :
    Blk ((wr.setCell ⟨b3, 0, none⟩ (.int .i64 0)).setCell ⟨b3, 1, none⟩ (.int .i64 0)) b2 46 cs ∧ Blk ((wr.setCell ⟨b3, 0, none⟩ (.int .i64 0)).setCell ⟨b3, 1, none⟩ (.int .i64 0)) b3 28 #[.int .i64 0, .int .i64 0] ∧
    Below B w ((wr.setCell ⟨b3, 0, none⟩ (.int .i64 0)).setCell ⟨b3, 1, none⟩ (.int .i64 0)) := by
  refine ⟨(K3.far (p := ⟨b3, 0, none⟩) hne _).far (p := ⟨b3, 1, none⟩) hne _, ?_, (hb.setCell (p := ⟨b3, 0, none⟩) h3 _).setCell (p := ⟨b3, 1, none⟩) h3 _⟩
  have := (K4.set_ 0 (.int .i64 0)).set_ 1 (.int .i64 0)
  simpa using this
theorem ownP_nil_ {e t : TypeId} {w : World} {base low n c : Nat} {A : Option Addr} {xss : List (List Int)} (h : OwnP e t w base low A n c xss) : A = none → c = 0 := fun hA => by
  obtain ⟨vs, h1, _⟩ := h
  rcases h1.form with ⟨_, _, hc, _⟩ | ⟨g, _, e1, _⟩
  · exact hc
  · rw [hA] at e1; cases e1
theorem ownP_lt_ {e t : TypeId} {w : World} {base low n c : Nat} {A : Option Addr} {xss : List (List Int)} (h : OwnP e t w base low A n c xss) : ∀ a, A = some a → a.block < w.heap.size := fun a hA => by
  obtain ⟨vs, h1, _⟩ := h
  rcases h1.form with ⟨e1, _⟩ | ⟨g, cur, e1, _, hh, _⟩
  · rw [hA] at e1; cases e1
  · rw [hA] at e1
    cases e1
    rcases Nat.lt_or_ge g w.heap.size with hlt | hge
    · exact hlt
    · rw [Array.getElem?_eq_none hge] at hh; cases hh


set_option maxHeartbeats 60000000 in
set_option maxRecDepth 100000 in
theorem topHeaps_walk {A : Option Addr} {m d : Nat} {raw : List Int} {least set o : Int} (w : World) (h : Ints w A m d raw) (hl : I64 least) (hs : I64 set) (ho : I64 o) : Calls Tryz.prog 5 #[.slice A m d, .int .i64 least, .int .i64 set, .int .i64 o] w fun e w' => e = .returned (.bool true) ∧ Below w.heap.size w w' := by
  have H := Lib.hid h
  have HL := Lib.hid hl
  have HSE := Lib.hid hs
  have HOP := Lib.hid ho
  have hbd := h.bd
  obtain ⟨i0, hi0, hz0, hz1, hz2⟩ := info_parts int_info
  obtain ⟨pp, hpp⟩ : ∃ r, Hid (pickF least 25 = r) := ⟨_, rfl⟩
  have hpr := pickF_range least (n := 25) (by omega)
  rw [hpp.out] at hpr
  obtain ⟨pv, hpv⟩ : ∃ z : Int, Hid (pp - 8 = z) := ⟨_, rfl⟩
  have hpvb : -8 ≤ pv ∧ pv ≤ 16 := by have := hpv.out; omega
  have hsr := pickF_range set (n := 16) (by omega)
  obtain ⟨sN, hsN⟩ : ∃ z : Nat, Hid (pickF set 16 = (z : Int)) := ⟨(pickF set 16).toNat, by show _ = _; omega⟩
  rw [hsN.out] at hsr
  have hs16 : sN < 64 := by omega
  have zp : IntKind.i64.wrap (pp - 8) = pv := by rw [hpv.out]; exact IntWalk.i64_in _ (by omega)
  clear h hl hs ho hsr
  go_enter Tryz.func5, Tryz.ntmps5
  go_wp2_with fail
  refine (picked_any least 25 w HL.out (by omega) (by omega) pp hpp).mono ?_
  rintro e wa ⟨rfl, ma, hma⟩
  have hba : Below w.heap.size w wa := by rw [hma]; exact below_drewN _ _
  clear hma
  obtain ⟨wb, hwb⟩ : ∃ z : World, Hid (z = wa.alloc (.cells #[.slice none 0 0, .slice none 0 0, .int .i64 pv] 54)) := ⟨_, rfl⟩
  have hbb : Below wa.heap.size wa wb := by rw [hwb.out]; exact below_new _ _
  have KB : Hid (Blk wb wa.heap.size 54 #[.slice none 0 0, .slice none 0 0, .int .i64 pv]) := by rw [hwb.out]; exact Blk.new _ _ _
  have HB := Lib.hid (below_next hba hbb)
  obtain ⟨b9, hb9⟩ : ∃ z : Nat, Hid (wa.heap.size = z) := ⟨_, rfl⟩
  have HLO : Hid (w.heap.size ≤ b9) := by show _ ≤ _; rw [← hb9.out]; exact hba.size
  rw [hb9.out] at KB
  clear hba hbb
  go_wp2_with fail
  try rw [zp]
  rw [← hwb.out]
  try rw [hb9.out]
  clear zp
  refine (picked_any set 16 wb HSE.out (by omega) (by omega) sN hsN).mono ?_
  rintro e wc ⟨rfl, mc, hmc⟩
  have hbc : Below wb.heap.size wb wc := by rw [hmc]; exact below_drewN _ _
  have KB2 := Lib.hid (KB.out.keep hbc)
  have HB2 := Lib.hid (below_next HB.out hbc)
  clear hmc hbc hwb KB HB
  go_wp2_with fail
  refine (bits_any sN 4 wc hs16 (by omega)).mono ?_
  rintro e wd ⟨B, nb, cb, rfl, hOb, hbd2⟩
  obtain ⟨bs, hbs⟩ : ∃ z, Hid (bitW 4 sN = z) := ⟨_, rfl⟩
  have hbl : bs.length = 4 := by rw [← hbs.out]; exact bitW_len 4 sN
  rw [hbs.out] at hOb
  obtain rfl : nb = 4 := by have := hOb.len; rw [List.length_map, hbl] at this; omega
  have HP0 : Hid (HpSt w wd b9 none 0 0 none 0 0 none 0 0 pv (asH bs 0) ((tsH raw 0).map (·.1)) ((tsH raw 0).map (·.2)) B cb bs) := ⟨below_next HB2.out hbd2, HLO.out, KB2.out.keep hbd2, Own.nil _ _ _, Own.nil _ _ _, Own.nil _ _ _, Dif.nil _, Dif.nil _, Dif.nil _, hOb.mono HB2.out.size⟩
  obtain ⟨gB, uB, eB, _, _, _, _, _⟩ := HP0.out.b.at_ (k := 0) (by omega)
  subst eB
  clear hOb hbd2 KB2 HB2
  go_wp2_with fail
  go_loopw [10, 12] (fun s10 s12 wr => ∃ (i dq dl do_ : Nat) (Q L O : Option Addr), i ≤ 4 ∧ s10 = .slice Q i dq ∧ s12 = .int .i64 i ∧ Hid (HpSt w wr b9 Q i dq L i dl O i do_ pv (asH bs i) ((tsH raw i).map (·.1)) ((tsH raw i).map (·.2)) (some ⟨gB, 0, none⟩) cb bs)) (fun _ s _ => 4 - (intOf s).toNat)
  case atStart => exact ⟨0, 0, 0, 0, none, none, none, by omega, rfl, rfl, HP0⟩
  case round =>
    clear HP0
    obtain ⟨i, dq, dl, do_, Q, L, O, hi, rfl, rfl, HP⟩ := hrel
    by_cases hlt : i < 4
    · obtain ⟨gB', u, eB, _, hgB, hcB, _, huB⟩ := HP.out.b.at_ hlt
      cases eB
      have hv0 : ∃ v, bs[i]? = some v ∧ u = .bool v := by
        have h9 := huB.out
        rw [List.getElem?_map, Option.map_eq_some_iff] at h9
        obtain ⟨v, h1, h2⟩ := h9
        exact ⟨v, h1, h2.symm⟩
      obtain ⟨v, hv, rfl⟩ := hv0
      have HAK : Hid (askH bs i = if v = true then (i : Int) + 1 else -((i : Int) + 1)) := by show _ = _; unfold askH; rw [List.getD_eq_getElem?_getD, hv]; rfl
      obtain ⟨x, hx⟩ : ∃ z, Hid (raw.getD i 0 = z) := ⟨_, rfl⟩
      have HX : Hid (I64 x) := by
        show I64 x
        rw [← hx.out, List.getD_eq_getElem?_getD]
        cases h9 : raw[i]? with
        | none => simp [I64]
        | some y => exact H.out.wf y (List.mem_of_getElem? h9)
      obtain ⟨pk, hpk⟩ : ∃ z, Hid (pickF x 2 = z) := ⟨_, rfl⟩
      have hpkr := pickF_range x (n := 2) (by omega)
      rw [hpk.out] at hpkr
      obtain ⟨wt, hwt⟩ : ∃ z, Hid (pickF (x.tdiv 2) 19 = z) := ⟨_, rfl⟩
      have hwtr := pickF_range (x.tdiv 2) (n := 19) (by omega)
      rw [hwt.out] at hwtr
      have HX2 : Hid (I64 (x.tdiv 2)) := tdiv_i64 HX.out (by omega)
      have HLI : Hid (litH raw i = if pk = 1 then -((i : Int) + 1) else (i : Int) + 1) := by show _ = _; unfold litH; rw [hx.out, hpk.out]
      have HWT : Hid (wtH raw i = wt - 9) := by show _ = _; unfold wtH; rw [hx.out, hwt.out]
      have q0 : (0 : Int) ≤ (i : Int) := by omega
      have q1 : (i : Int) < 4 := by omega
      have zi : IntKind.i64.wrap ((i : Int) + 1) = (i : Int) + 1 := IntWalk.i64_in _ (by omega)
      have zw : IntKind.i64.wrap (wt - 9) = wt - 9 := IntWalk.i64_in _ (by omega)
      have zt : IntKind.i64.wrap (x.tdiv 2) = x.tdiv 2 := IntWalk.i64_in _ (by have := HX2.out; unfold I64 at this; omega)
      clear huB hv
      cases v
      · have hbn : Below wr.heap.size wr (wr.alloc (.cells #[.int .i64 (-((i : Int) + 1))] 3)) := below_new _ _
        have SQ : Hid (Own 3 (wr.alloc (.cells #[.int .i64 (-((i : Int) + 1))] 3)) wr.heap.size (some ⟨wr.heap.size, 0, none⟩) 1 1 [.int .i64 (-((i : Int) + 1))]) := own_new 3 wr wr.heap.size [.int .i64 (-((i : Int) + 1))] rfl (Nat.le_refl _) (by simp [maxLen])
        have HPn := Lib.hid (HP.out.keep hbn)
        have hz9 := HPn.out.bl.size
        have HAE : Hid (asH bs (i + 1) = asH bs i ++ [(-((i : Int) + 1))]) := by show _ = _; rw [asH_succ, HAK.out]; rfl
        clear hbn HAK
        go_wp2_with (first | (at_builtin; refine wpList_append_sl _ rfl (.tmp 41) (.tmp 44) 22 rfl w.heap.size 3 i0 _ 8 Tryz.underlying22 hi0 hz0 hz1 hz2 rfl Q i dq _ rfl HPn.out.q (some ⟨wr.heap.size, 0, none⟩) 1 1 [.int .i64 (-((i : Int) + 1))] rfl SQ.out.sl (by simp [Value.oneCell']) (by simp only [maxLen]; omega) (by omega) hz9 ?_; intro Q2 dq2 w3 hO2 hG2 hA2; have HP3 := Lib.hid (HPn.out.growQ hO2 hG2 hA2); rw [← HAE.out] at HP3; clear hO2 hG2 hA2 hz9 HPn hcB hgB))
        refine (kat_any A m d raw i w3 (H.out.keep HP3.out.bl) (by omega) x hx).mono ?_
        rintro e w4 ⟨rfl, m4, hm4⟩
        have hb4 : Below w3.heap.size w3 w4 := by rw [hm4]; exact below_drewN _ _
        have HP4 := Lib.hid (HP3.out.keep hb4)
        clear hb4 hm4 HP3
        go_wp2_with fail
        refine (picked_any x 2 w4 HX.out (by omega) (by omega) pk hpk).mono ?_
        rintro e w5 ⟨rfl, m5, hm5⟩
        have hb5 : Below w4.heap.size w4 w5 := by rw [hm5]; exact below_drewN _ _
        have HP5 := Lib.hid (HP4.out.keep hb5)
        clear hb5 hm5 HP4
        have c0 := HP5.out.bx.cell 0
        have c3 := HP5.out.bx.frozen 0
        have cl := HP5.out.bx.lt
        simp at c0
        by_cases hp1 : pk = 1
        · subst hp1
          have hbn : Below w5.heap.size w5 (w5.alloc (.cells #[.int .i64 (-((i : Int) + 1))] 3)) := below_new _ _
          have SQ : Hid (Own 3 (w5.alloc (.cells #[.int .i64 (-((i : Int) + 1))] 3)) w5.heap.size (some ⟨w5.heap.size, 0, none⟩) 1 1 [.int .i64 (-((i : Int) + 1))]) := own_new 3 w5 w5.heap.size [.int .i64 (-((i : Int) + 1))] rfl (Nat.le_refl _) (by simp [maxLen])
          have HLE : Hid ((tsH raw (i + 1)).map (·.1) = (tsH raw i).map (·.1) ++ [(-((i : Int) + 1))]) := by show _ = _; rw [tsH_succ, List.map_append, HLI.out]; simp
          have HPn := Lib.hid (HP5.out.keep hbn)
          have hz9 := HPn.out.bl.size
          clear hbn
          go_wp2_with (first | (at_builtin; refine wpList_append_sl _ rfl (.tmp 54) (.tmp 56) 22 rfl w.heap.size 3 i0 _ 8 Tryz.underlying22 hi0 hz0 hz1 hz2 rfl L i dl _ rfl HPn.out.l (some ⟨w5.heap.size, 0, none⟩) 1 1 [.int .i64 (-((i : Int) + 1))] rfl SQ.out.sl (by simp [Value.oneCell']) (by simp only [maxLen]; omega) (by omega) hz9 ?_; intro L2 dl2 w6 hO6 hG6 hA6; have hb6 := HPn.out.bx.ownGrown HPn.out.l hG6 (by decide); have k60 := hb6.cell 0; have k63 := hb6.frozen 0; have k6l := hb6.lt; simp at k60; have HP6 : Hid (HpSt w (w6.setCell ⟨b9, 0, none⟩ (.slice L2 (i + 1) dl2)) b9 Q2 (i + 1) dq2 L2 (i + 1) dl2 O i do_ pv (asH bs (i + 1)) ((tsH raw (i + 1)).map (·.1)) ((tsH raw i).map (·.2)) (some ⟨gB, 0, none⟩) cb bs) := (by rw [HLE.out]; exact HPn.out.growL hO6 hG6 hA6 rfl); clear hO6 hG6 hA6 hb6 hz9 HPn c0 c3 cl))
          obtain ⟨w7, hw7⟩ : ∃ z : World, z = w6.setCell ⟨b9, 0, none⟩ (.slice L2 (i + 1) dl2) := ⟨_, rfl⟩
          rw [← hw7] at HP6 ⊢
          clear hw7 k60 k63 k6l HP5
          obtain ⟨W0, hwd⟩ : ∃ z : World, z = w7.drew := ⟨_, rfl⟩
          have hbd0 : Below w7.heap.size w7 W0 := by rw [hwd]; exact below_drewN _ 1
          have HP7 := Lib.hid (HP6.out.keep hbd0)
          have c1 := HP7.out.bx.cell 1
          have cl := HP7.out.bx.lt
          simp at c1
          have hS : W0.cell? ⟨b9, 1, none⟩ = some (.slice O i do_) ∧ b9 < W0.heap.size := ⟨c1, cl⟩
          refine wp_region_tail (fun w' => w'.cell? ⟨b9, 1, none⟩ = some (.slice O i do_) ∧ b9 < w'.heap.size) [11] (by kernel_rfl) ?_
          change wpAnyT _ _ _ _ _ _ _ _ _ w7.drew
          rw [← hwd]
          clear hwd hbd0 HP6 c1 cl
          refine take0 (i := 0) (oi := _) (v := ?_) rfl (by kernel_rfl) (by kernel_rfl) (by kernel_rfl) (fun _ _ _ h => h) rfl (Or.inl ⟨by rfl, ?_⟩) (fun _ => hS) ?_
          rotate_left
          · intro w0; go_simp; with_reducible rfl
          (try simp only [Act.put, List.setIfInBounds_toArray, List.set_cons_zero, List.set_cons_succ])
          refine takeS (i := 1) (oi := _) (v := ?_) rfl (by kernel_rfl) (by kernel_rfl) (by kernel_rfl) (fun _ _ _ h => h) rfl (by kernel_rfl) (by kernel_rfl) (Or.inl ⟨by rfl, ?_⟩) hS ?_
          rotate_left
          · intro w0 hSw; (try dsimp only at hSw); go_simp; with_reducible rfl
          (try simp only [Act.put, List.setIfInBounds_toArray, List.set_cons_zero, List.set_cons_succ])
          refine take0 (i := 2) (oi := _) (v := ?_) rfl (by kernel_rfl) (by kernel_rfl) (by kernel_rfl) (fun _ _ _ h => h) rfl (Or.inl ⟨by rfl, ?_⟩) (fun _ => hS) ?_
          rotate_left
          · intro w0; go_simp; with_reducible rfl
          (try simp only [Act.put, List.setIfInBounds_toArray, List.set_cons_zero, List.set_cons_succ])
          refine take0 (i := 3) (oi := _) (v := ?_) rfl (by kernel_rfl) (by kernel_rfl) (by kernel_rfl) (fun _ _ _ h => h) rfl (Or.inl ⟨by rfl, ?_⟩) (fun _ => hS) ?_
          rotate_left
          · intro w0; go_simp; with_reducible rfl
          (try simp only [Act.put, List.setIfInBounds_toArray, List.set_cons_zero, List.set_cons_succ])
          refine oneT (i := 4) (by kernel_rfl) rfl (by rfl) (fun Kq hK => ?_)
          go_simp
          refine (kat_any A m d raw i W0 (H.out.keep HP7.out.bl) (by omega) x hx).mono ?_
          rintro e W1 ⟨rfl, m8, hm8⟩
          have hb8 : Below W0.heap.size W0 W1 := by rw [hm8]; exact below_drewN _ _
          have HP8 := Lib.hid (HP7.out.keep hb8)
          replace hS : W1.cell? ⟨b9, 1, none⟩ = some (.slice O i do_) ∧ b9 < W1.heap.size := ⟨keepBox hb8 hS.1, Nat.lt_of_lt_of_le hS.2 hb8.size⟩
          clear hb8 hm8 HP7
          refine hK _ _ (fun _ => hS) ?_
          clear hK
          (try simp only [Act.put, List.setIfInBounds_toArray, List.set_cons_zero, List.set_cons_succ])
          refine take0 (i := 5) (oi := _) (v := ?_) rfl (by kernel_rfl) (by kernel_rfl) (by kernel_rfl) (fun _ _ _ h => h) rfl (Or.inl ⟨by rfl, ?_⟩) (fun _ => hS) ?_
          rotate_left
          · intro w0; go_simp; (try simp only [zt]); try with_reducible rfl
          (try simp only [Act.put, List.setIfInBounds_toArray, List.set_cons_zero, List.set_cons_succ])
          refine oneT (i := 6) (by kernel_rfl) rfl (by rfl) (fun Kq hK => ?_)
          go_simp
          refine (picked_any (x.tdiv 2) 19 W1 HX2.out (by omega) (by omega) wt hwt).mono ?_
          rintro e W2 ⟨rfl, m9, hm9⟩
          have hb9' : Below W1.heap.size W1 W2 := by rw [hm9]; exact below_drewN _ _
          have HP9 := Lib.hid (HP8.out.keep hb9')
          replace hS : W2.cell? ⟨b9, 1, none⟩ = some (.slice O i do_) ∧ b9 < W2.heap.size := ⟨keepBox hb9' hS.1, Nat.lt_of_lt_of_le hS.2 hb9'.size⟩
          clear hb9' hm9 HP8
          refine hK _ _ (fun _ => hS) ?_
          clear hK
          (try simp only [Act.put, List.setIfInBounds_toArray, List.set_cons_zero, List.set_cons_succ])
          refine take0 (i := 7) (oi := _) (v := ?_) rfl (by kernel_rfl) (by kernel_rfl) (by kernel_rfl) (fun _ _ _ h => h) rfl (Or.inl ⟨by rfl, ?_⟩) (fun _ => hS) ?_
          rotate_left
          · intro w0; go_simp; (try simp only [zw]); try with_reducible rfl
          (try simp only [Act.put, List.setIfInBounds_toArray, List.set_cons_zero, List.set_cons_succ])
          refine oneT (i := 8) (by kernel_rfl) rfl (by rfl) (fun Kq hK => ?_)
          go_simp
          try rw [zw]
          obtain ⟨W3, hv1⟩ : ∃ z : World, z = W2.alloc (.cells #[.int .i64 (wt - 9)] 3) := ⟨_, rfl⟩
          have hbn : Below W2.heap.size W2 W3 := by rw [hv1]; exact below_new _ _
          have SQ : Hid (Own 3 W3 W2.heap.size (some ⟨W2.heap.size, 0, none⟩) 1 1 [.int .i64 (wt - 9)]) := by rw [hv1]; exact own_new 3 W2 W2.heap.size [.int .i64 (wt - 9)] rfl (Nat.le_refl _) (by simp [maxLen])
          have HPa := Lib.hid (HP9.out.keep hbn)
          replace hS : W3.cell? ⟨b9, 1, none⟩ = some (.slice O i do_) ∧ b9 < W3.heap.size := ⟨keepBox hbn hS.1, Nat.lt_of_lt_of_le hS.2 hbn.size⟩
          rw [← hv1]
          clear hv1 hbn HP9
          refine hK _ _ (fun _ => hS) ?_
          clear hK
          (try simp only [Act.put, List.setIfInBounds_toArray, List.set_cons_zero, List.set_cons_succ])
          refine oneT (i := 9) (by kernel_rfl) rfl (by rfl) (fun Kq hK => ?_)
          have hz9 := HPa.out.bl.size
          refine wp_append_sl _ (.tmp 60) (.tmp 67) 22 rfl w.heap.size 3 i0 _ 8 Tryz.underlying22 hi0 hz0 hz1 hz2 rfl O i do_ _ rfl HPa.out.o (some ⟨W2.heap.size, 0, none⟩) 1 1 [.int .i64 (wt - 9)] rfl SQ.out.sl (by simp [Value.oneCell']) (by simp only [maxLen]; omega) (by omega) hz9 ?_
          intro O2 do2 W4 hO2 hG2 hA2
          have hb4 := HPa.out.bx.ownGrown HPa.out.o hG2 (by decide)
          have k1 := hb4.cell 1
          have k3 := hb4.frozen 1
          have kl := hb4.lt
          simp at k1
          have HWE : Hid ((tsH raw (i + 1)).map (·.2) = (tsH raw i).map (·.2) ++ [wt - 9]) := by show _ = _; rw [tsH_succ, List.map_append, HWT.out]; simp
          have HPb : Hid (HpSt w (W4.setCell ⟨b9, 1, none⟩ (.slice O2 (i + 1) do2)) b9 Q2 (i + 1) dq2 L2 (i + 1) dl2 O2 (i + 1) do2 pv (asH bs (i + 1)) ((tsH raw (i + 1)).map (·.1)) ((tsH raw (i + 1)).map (·.2)) (some ⟨gB, 0, none⟩) cb bs) := by rw [HWE.out]; exact HPa.out.growO hO2 hG2 hA2 rfl
          replace hS : W4.cell? ⟨b9, 1, none⟩ = some (.slice O i do_) ∧ b9 < W4.heap.size := ⟨k1, kl⟩
          clear hO2 hG2 hA2 hb4 hz9 HPa SQ
          refine hK _ _ (fun _ => hS) ?_
          clear hK
          (try simp only [Act.put, List.setIfInBounds_toArray, List.set_cons_zero, List.set_cons_succ])
          (try simp only [Nat.zero_add])
          refine take0 (i := 10) (oi := _) (v := ?_) rfl (by kernel_rfl) (by kernel_rfl) (by kernel_rfl) (fun _ _ _ h => h) rfl (Or.inl ⟨by rfl, ?_⟩) (fun _ => hS) ?_
          rotate_left
          · intro w0; go_simp; with_reducible rfl
          (try simp only [Act.put, List.setIfInBounds_toArray, List.set_cons_zero, List.set_cons_succ])
          refine oneT (i := 11) (by kernel_rfl) rfl (by rfl) (fun Kq hK => ?_)
          go_simp
          refine hK _ _ (noT_no (by kernel_rfl)) ?_
          clear hK
          refine doneT (by kernel_rfl) ?_ _
          obtain ⟨W9, hW9⟩ : ∃ z : World, z = W4.setCell ⟨b9, 1, none⟩ (.slice O2 (i + 1) do2) := ⟨_, rfl⟩
          rw [← hW9] at HPb ⊢
          clear hW9 hS k1 k3 kl
          go_wp2_with fail
          go_roundw
          case rel => exact ⟨i + 1, dq2, dl2, do2, Q2, L2, O2, by omega, rfl, by go_num, HPb⟩
          case measure => simp [intOf] <;> omega
        · have hpn : (pk == 1) = false := by rw [beq_eq_false_iff_ne]; exact hp1
          have hbn : Below w5.heap.size w5 (w5.alloc (.cells #[.int .i64 ((i : Int) + 1)] 3)) := below_new _ _
          have SQ : Hid (Own 3 (w5.alloc (.cells #[.int .i64 ((i : Int) + 1)] 3)) w5.heap.size (some ⟨w5.heap.size, 0, none⟩) 1 1 [.int .i64 ((i : Int) + 1)]) := own_new 3 w5 w5.heap.size [.int .i64 ((i : Int) + 1)] rfl (Nat.le_refl _) (by simp [maxLen])
          have HLE : Hid ((tsH raw (i + 1)).map (·.1) = (tsH raw i).map (·.1) ++ [((i : Int) + 1)]) := by show _ = _; rw [tsH_succ, List.map_append, HLI.out]; simp [hp1]
          have HPn := Lib.hid (HP5.out.keep hbn)
          have hz9 := HPn.out.bl.size
          clear hbn
          go_wp2_with (first | (at_builtin; refine wpList_append_sl _ rfl (.tmp 54) (.tmp 56) 22 rfl w.heap.size 3 i0 _ 8 Tryz.underlying22 hi0 hz0 hz1 hz2 rfl L i dl _ rfl HPn.out.l (some ⟨w5.heap.size, 0, none⟩) 1 1 [.int .i64 ((i : Int) + 1)] rfl SQ.out.sl (by simp [Value.oneCell']) (by simp only [maxLen]; omega) (by omega) hz9 ?_; intro L2 dl2 w6 hO6 hG6 hA6; have hb6 := HPn.out.bx.ownGrown HPn.out.l hG6 (by decide); have k60 := hb6.cell 0; have k63 := hb6.frozen 0; have k6l := hb6.lt; simp at k60; have HP6 : Hid (HpSt w (w6.setCell ⟨b9, 0, none⟩ (.slice L2 (i + 1) dl2)) b9 Q2 (i + 1) dq2 L2 (i + 1) dl2 O i do_ pv (asH bs (i + 1)) ((tsH raw (i + 1)).map (·.1)) ((tsH raw i).map (·.2)) (some ⟨gB, 0, none⟩) cb bs) := (by rw [HLE.out]; exact HPn.out.growL hO6 hG6 hA6 rfl); clear hO6 hG6 hA6 hb6 hz9 HPn c0 c3 cl))
          obtain ⟨w7, hw7⟩ : ∃ z : World, z = w6.setCell ⟨b9, 0, none⟩ (.slice L2 (i + 1) dl2) := ⟨_, rfl⟩
          rw [← hw7] at HP6 ⊢
          clear hw7 k60 k63 k6l HP5
          obtain ⟨W0, hwd⟩ : ∃ z : World, z = w7.drew := ⟨_, rfl⟩
          have hbd0 : Below w7.heap.size w7 W0 := by rw [hwd]; exact below_drewN _ 1
          have HP7 := Lib.hid (HP6.out.keep hbd0)
          have c1 := HP7.out.bx.cell 1
          have cl := HP7.out.bx.lt
          simp at c1
          have hS : W0.cell? ⟨b9, 1, none⟩ = some (.slice O i do_) ∧ b9 < W0.heap.size := ⟨c1, cl⟩
          refine wp_region_tail (fun w' => w'.cell? ⟨b9, 1, none⟩ = some (.slice O i do_) ∧ b9 < w'.heap.size) [11] (by kernel_rfl) ?_
          change wpAnyT _ _ _ _ _ _ _ _ _ w7.drew
          rw [← hwd]
          clear hwd hbd0 HP6 c1 cl
          refine take0 (i := 0) (oi := _) (v := ?_) rfl (by kernel_rfl) (by kernel_rfl) (by kernel_rfl) (fun _ _ _ h => h) rfl (Or.inl ⟨by rfl, ?_⟩) (fun _ => hS) ?_
          rotate_left
          · intro w0; go_simp; with_reducible rfl
          (try simp only [Act.put, List.setIfInBounds_toArray, List.set_cons_zero, List.set_cons_succ])
          refine takeS (i := 1) (oi := _) (v := ?_) rfl (by kernel_rfl) (by kernel_rfl) (by kernel_rfl) (fun _ _ _ h => h) rfl (by kernel_rfl) (by kernel_rfl) (Or.inl ⟨by rfl, ?_⟩) hS ?_
          rotate_left
          · intro w0 hSw; (try dsimp only at hSw); go_simp; with_reducible rfl
          (try simp only [Act.put, List.setIfInBounds_toArray, List.set_cons_zero, List.set_cons_succ])
          refine take0 (i := 2) (oi := _) (v := ?_) rfl (by kernel_rfl) (by kernel_rfl) (by kernel_rfl) (fun _ _ _ h => h) rfl (Or.inl ⟨by rfl, ?_⟩) (fun _ => hS) ?_
          rotate_left
          · intro w0; go_simp; with_reducible rfl
          (try simp only [Act.put, List.setIfInBounds_toArray, List.set_cons_zero, List.set_cons_succ])
          refine take0 (i := 3) (oi := _) (v := ?_) rfl (by kernel_rfl) (by kernel_rfl) (by kernel_rfl) (fun _ _ _ h => h) rfl (Or.inl ⟨by rfl, ?_⟩) (fun _ => hS) ?_
          rotate_left
          · intro w0; go_simp; with_reducible rfl
          (try simp only [Act.put, List.setIfInBounds_toArray, List.set_cons_zero, List.set_cons_succ])
          refine oneT (i := 4) (by kernel_rfl) rfl (by rfl) (fun Kq hK => ?_)
          go_simp
          refine (kat_any A m d raw i W0 (H.out.keep HP7.out.bl) (by omega) x hx).mono ?_
          rintro e W1 ⟨rfl, m8, hm8⟩
          have hb8 : Below W0.heap.size W0 W1 := by rw [hm8]; exact below_drewN _ _
          have HP8 := Lib.hid (HP7.out.keep hb8)
          replace hS : W1.cell? ⟨b9, 1, none⟩ = some (.slice O i do_) ∧ b9 < W1.heap.size := ⟨keepBox hb8 hS.1, Nat.lt_of_lt_of_le hS.2 hb8.size⟩
          clear hb8 hm8 HP7
          refine hK _ _ (fun _ => hS) ?_
          clear hK
          (try simp only [Act.put, List.setIfInBounds_toArray, List.set_cons_zero, List.set_cons_succ])
          refine take0 (i := 5) (oi := _) (v := ?_) rfl (by kernel_rfl) (by kernel_rfl) (by kernel_rfl) (fun _ _ _ h => h) rfl (Or.inl ⟨by rfl, ?_⟩) (fun _ => hS) ?_
          rotate_left
          · intro w0; go_simp; (try simp only [zt]); try with_reducible rfl
          (try simp only [Act.put, List.setIfInBounds_toArray, List.set_cons_zero, List.set_cons_succ])
          refine oneT (i := 6) (by kernel_rfl) rfl (by rfl) (fun Kq hK => ?_)
          go_simp
          refine (picked_any (x.tdiv 2) 19 W1 HX2.out (by omega) (by omega) wt hwt).mono ?_
          rintro e W2 ⟨rfl, m9, hm9⟩
          have hb9' : Below W1.heap.size W1 W2 := by rw [hm9]; exact below_drewN _ _
          have HP9 := Lib.hid (HP8.out.keep hb9')
          replace hS : W2.cell? ⟨b9, 1, none⟩ = some (.slice O i do_) ∧ b9 < W2.heap.size := ⟨keepBox hb9' hS.1, Nat.lt_of_lt_of_le hS.2 hb9'.size⟩
          clear hb9' hm9 HP8
          refine hK _ _ (fun _ => hS) ?_
          clear hK
          (try simp only [Act.put, List.setIfInBounds_toArray, List.set_cons_zero, List.set_cons_succ])
          refine take0 (i := 7) (oi := _) (v := ?_) rfl (by kernel_rfl) (by kernel_rfl) (by kernel_rfl) (fun _ _ _ h => h) rfl (Or.inl ⟨by rfl, ?_⟩) (fun _ => hS) ?_
          rotate_left
          · intro w0; go_simp; (try simp only [zw]); try with_reducible rfl
          (try simp only [Act.put, List.setIfInBounds_toArray, List.set_cons_zero, List.set_cons_succ])
          refine oneT (i := 8) (by kernel_rfl) rfl (by rfl) (fun Kq hK => ?_)
          go_simp
          try rw [zw]
          obtain ⟨W3, hv1⟩ : ∃ z : World, z = W2.alloc (.cells #[.int .i64 (wt - 9)] 3) := ⟨_, rfl⟩
          have hbn : Below W2.heap.size W2 W3 := by rw [hv1]; exact below_new _ _
          have SQ : Hid (Own 3 W3 W2.heap.size (some ⟨W2.heap.size, 0, none⟩) 1 1 [.int .i64 (wt - 9)]) := by rw [hv1]; exact own_new 3 W2 W2.heap.size [.int .i64 (wt - 9)] rfl (Nat.le_refl _) (by simp [maxLen])
          have HPa := Lib.hid (HP9.out.keep hbn)
          replace hS : W3.cell? ⟨b9, 1, none⟩ = some (.slice O i do_) ∧ b9 < W3.heap.size := ⟨keepBox hbn hS.1, Nat.lt_of_lt_of_le hS.2 hbn.size⟩
          rw [← hv1]
          clear hv1 hbn HP9
          refine hK _ _ (fun _ => hS) ?_
          clear hK
          (try simp only [Act.put, List.setIfInBounds_toArray, List.set_cons_zero, List.set_cons_succ])
          refine oneT (i := 9) (by kernel_rfl) rfl (by rfl) (fun Kq hK => ?_)
          have hz9 := HPa.out.bl.size
          refine wp_append_sl _ (.tmp 60) (.tmp 67) 22 rfl w.heap.size 3 i0 _ 8 Tryz.underlying22 hi0 hz0 hz1 hz2 rfl O i do_ _ rfl HPa.out.o (some ⟨W2.heap.size, 0, none⟩) 1 1 [.int .i64 (wt - 9)] rfl SQ.out.sl (by simp [Value.oneCell']) (by simp only [maxLen]; omega) (by omega) hz9 ?_
          intro O2 do2 W4 hO2 hG2 hA2
          have hb4 := HPa.out.bx.ownGrown HPa.out.o hG2 (by decide)
          have k1 := hb4.cell 1
          have k3 := hb4.frozen 1
          have kl := hb4.lt
          simp at k1
          have HWE : Hid ((tsH raw (i + 1)).map (·.2) = (tsH raw i).map (·.2) ++ [wt - 9]) := by show _ = _; rw [tsH_succ, List.map_append, HWT.out]; simp
          have HPb : Hid (HpSt w (W4.setCell ⟨b9, 1, none⟩ (.slice O2 (i + 1) do2)) b9 Q2 (i + 1) dq2 L2 (i + 1) dl2 O2 (i + 1) do2 pv (asH bs (i + 1)) ((tsH raw (i + 1)).map (·.1)) ((tsH raw (i + 1)).map (·.2)) (some ⟨gB, 0, none⟩) cb bs) := by rw [HWE.out]; exact HPa.out.growO hO2 hG2 hA2 rfl
          replace hS : W4.cell? ⟨b9, 1, none⟩ = some (.slice O i do_) ∧ b9 < W4.heap.size := ⟨k1, kl⟩
          clear hO2 hG2 hA2 hb4 hz9 HPa SQ
          refine hK _ _ (fun _ => hS) ?_
          clear hK
          (try simp only [Act.put, List.setIfInBounds_toArray, List.set_cons_zero, List.set_cons_succ])
          (try simp only [Nat.zero_add])
          refine take0 (i := 10) (oi := _) (v := ?_) rfl (by kernel_rfl) (by kernel_rfl) (by kernel_rfl) (fun _ _ _ h => h) rfl (Or.inl ⟨by rfl, ?_⟩) (fun _ => hS) ?_
          rotate_left
          · intro w0; go_simp; with_reducible rfl
          (try simp only [Act.put, List.setIfInBounds_toArray, List.set_cons_zero, List.set_cons_succ])
          refine oneT (i := 11) (by kernel_rfl) rfl (by rfl) (fun Kq hK => ?_)
          go_simp
          refine hK _ _ (noT_no (by kernel_rfl)) ?_
          clear hK
          refine doneT (by kernel_rfl) ?_ _
          obtain ⟨W9, hW9⟩ : ∃ z : World, z = W4.setCell ⟨b9, 1, none⟩ (.slice O2 (i + 1) do2) := ⟨_, rfl⟩
          rw [← hW9] at HPb ⊢
          clear hW9 hS k1 k3 kl
          go_wp2_with fail
          go_roundw
          case rel => exact ⟨i + 1, dq2, dl2, do2, Q2, L2, O2, by omega, rfl, by go_num, HPb⟩
          case measure => simp [intOf] <;> omega
      · have hbn : Below wr.heap.size wr (wr.alloc (.cells #[.int .i64 ((i : Int) + 1)] 3)) := below_new _ _
        have SQ : Hid (Own 3 (wr.alloc (.cells #[.int .i64 ((i : Int) + 1)] 3)) wr.heap.size (some ⟨wr.heap.size, 0, none⟩) 1 1 [.int .i64 ((i : Int) + 1)]) := own_new 3 wr wr.heap.size [.int .i64 ((i : Int) + 1)] rfl (Nat.le_refl _) (by simp [maxLen])
        have HPn := Lib.hid (HP.out.keep hbn)
        have hz9 := HPn.out.bl.size
        have HAE : Hid (asH bs (i + 1) = asH bs i ++ [((i : Int) + 1)]) := by show _ = _; rw [asH_succ, HAK.out]; rfl
        clear hbn HAK
        go_wp2_with (first | (at_builtin; refine wpList_append_sl _ rfl (.tmp 37) (.tmp 39) 22 rfl w.heap.size 3 i0 _ 8 Tryz.underlying22 hi0 hz0 hz1 hz2 rfl Q i dq _ rfl HPn.out.q (some ⟨wr.heap.size, 0, none⟩) 1 1 [.int .i64 ((i : Int) + 1)] rfl SQ.out.sl (by simp [Value.oneCell']) (by simp only [maxLen]; omega) (by omega) hz9 ?_; intro Q2 dq2 w3 hO2 hG2 hA2; have HP3 := Lib.hid (HPn.out.growQ hO2 hG2 hA2); rw [← HAE.out] at HP3; clear hO2 hG2 hA2 hz9 HPn hcB hgB))
        refine (kat_any A m d raw i w3 (H.out.keep HP3.out.bl) (by omega) x hx).mono ?_
        rintro e w4 ⟨rfl, m4, hm4⟩
        have hb4 : Below w3.heap.size w3 w4 := by rw [hm4]; exact below_drewN _ _
        have HP4 := Lib.hid (HP3.out.keep hb4)
        clear hb4 hm4 HP3
        go_wp2_with fail
        refine (picked_any x 2 w4 HX.out (by omega) (by omega) pk hpk).mono ?_
        rintro e w5 ⟨rfl, m5, hm5⟩
        have hb5 : Below w4.heap.size w4 w5 := by rw [hm5]; exact below_drewN _ _
        have HP5 := Lib.hid (HP4.out.keep hb5)
        clear hb5 hm5 HP4
        have c0 := HP5.out.bx.cell 0
        have c3 := HP5.out.bx.frozen 0
        have cl := HP5.out.bx.lt
        simp at c0
        by_cases hp1 : pk = 1
        · subst hp1
          have hbn : Below w5.heap.size w5 (w5.alloc (.cells #[.int .i64 (-((i : Int) + 1))] 3)) := below_new _ _
          have SQ : Hid (Own 3 (w5.alloc (.cells #[.int .i64 (-((i : Int) + 1))] 3)) w5.heap.size (some ⟨w5.heap.size, 0, none⟩) 1 1 [.int .i64 (-((i : Int) + 1))]) := own_new 3 w5 w5.heap.size [.int .i64 (-((i : Int) + 1))] rfl (Nat.le_refl _) (by simp [maxLen])
          have HLE : Hid ((tsH raw (i + 1)).map (·.1) = (tsH raw i).map (·.1) ++ [(-((i : Int) + 1))]) := by show _ = _; rw [tsH_succ, List.map_append, HLI.out]; simp
          have HPn := Lib.hid (HP5.out.keep hbn)
          have hz9 := HPn.out.bl.size
          clear hbn
          go_wp2_with (first | (at_builtin; refine wpList_append_sl _ rfl (.tmp 54) (.tmp 56) 22 rfl w.heap.size 3 i0 _ 8 Tryz.underlying22 hi0 hz0 hz1 hz2 rfl L i dl _ rfl HPn.out.l (some ⟨w5.heap.size, 0, none⟩) 1 1 [.int .i64 (-((i : Int) + 1))] rfl SQ.out.sl (by simp [Value.oneCell']) (by simp only [maxLen]; omega) (by omega) hz9 ?_; intro L2 dl2 w6 hO6 hG6 hA6; have hb6 := HPn.out.bx.ownGrown HPn.out.l hG6 (by decide); have k60 := hb6.cell 0; have k63 := hb6.frozen 0; have k6l := hb6.lt; simp at k60; have HP6 : Hid (HpSt w (w6.setCell ⟨b9, 0, none⟩ (.slice L2 (i + 1) dl2)) b9 Q2 (i + 1) dq2 L2 (i + 1) dl2 O i do_ pv (asH bs (i + 1)) ((tsH raw (i + 1)).map (·.1)) ((tsH raw i).map (·.2)) (some ⟨gB, 0, none⟩) cb bs) := (by rw [HLE.out]; exact HPn.out.growL hO6 hG6 hA6 rfl); clear hO6 hG6 hA6 hb6 hz9 HPn c0 c3 cl))
          obtain ⟨w7, hw7⟩ : ∃ z : World, z = w6.setCell ⟨b9, 0, none⟩ (.slice L2 (i + 1) dl2) := ⟨_, rfl⟩
          rw [← hw7] at HP6 ⊢
          clear hw7 k60 k63 k6l HP5
          obtain ⟨W0, hwd⟩ : ∃ z : World, z = w7.drew := ⟨_, rfl⟩
          have hbd0 : Below w7.heap.size w7 W0 := by rw [hwd]; exact below_drewN _ 1
          have HP7 := Lib.hid (HP6.out.keep hbd0)
          have c1 := HP7.out.bx.cell 1
          have cl := HP7.out.bx.lt
          simp at c1
          have hS : W0.cell? ⟨b9, 1, none⟩ = some (.slice O i do_) ∧ b9 < W0.heap.size := ⟨c1, cl⟩
          refine wp_region_tail (fun w' => w'.cell? ⟨b9, 1, none⟩ = some (.slice O i do_) ∧ b9 < w'.heap.size) [11] (by kernel_rfl) ?_
          change wpAnyT _ _ _ _ _ _ _ _ _ w7.drew
          rw [← hwd]
          clear hwd hbd0 HP6 c1 cl
          refine take0 (i := 0) (oi := _) (v := ?_) rfl (by kernel_rfl) (by kernel_rfl) (by kernel_rfl) (fun _ _ _ h => h) rfl (Or.inl ⟨by rfl, ?_⟩) (fun _ => hS) ?_
          rotate_left
          · intro w0; go_simp; with_reducible rfl
          (try simp only [Act.put, List.setIfInBounds_toArray, List.set_cons_zero, List.set_cons_succ])
          refine takeS (i := 1) (oi := _) (v := ?_) rfl (by kernel_rfl) (by kernel_rfl) (by kernel_rfl) (fun _ _ _ h => h) rfl (by kernel_rfl) (by kernel_rfl) (Or.inl ⟨by rfl, ?_⟩) hS ?_
          rotate_left
          · intro w0 hSw; (try dsimp only at hSw); go_simp; with_reducible rfl
          (try simp only [Act.put, List.setIfInBounds_toArray, List.set_cons_zero, List.set_cons_succ])
          refine take0 (i := 2) (oi := _) (v := ?_) rfl (by kernel_rfl) (by kernel_rfl) (by kernel_rfl) (fun _ _ _ h => h) rfl (Or.inl ⟨by rfl, ?_⟩) (fun _ => hS) ?_
          rotate_left
          · intro w0; go_simp; with_reducible rfl
          (try simp only [Act.put, List.setIfInBounds_toArray, List.set_cons_zero, List.set_cons_succ])
          refine take0 (i := 3) (oi := _) (v := ?_) rfl (by kernel_rfl) (by kernel_rfl) (by kernel_rfl) (fun _ _ _ h => h) rfl (Or.inl ⟨by rfl, ?_⟩) (fun _ => hS) ?_
          rotate_left
          · intro w0; go_simp; with_reducible rfl
          (try simp only [Act.put, List.setIfInBounds_toArray, List.set_cons_zero, List.set_cons_succ])
          refine oneT (i := 4) (by kernel_rfl) rfl (by rfl) (fun Kq hK => ?_)
          go_simp
          refine (kat_any A m d raw i W0 (H.out.keep HP7.out.bl) (by omega) x hx).mono ?_
          rintro e W1 ⟨rfl, m8, hm8⟩
          have hb8 : Below W0.heap.size W0 W1 := by rw [hm8]; exact below_drewN _ _
          have HP8 := Lib.hid (HP7.out.keep hb8)
          replace hS : W1.cell? ⟨b9, 1, none⟩ = some (.slice O i do_) ∧ b9 < W1.heap.size := ⟨keepBox hb8 hS.1, Nat.lt_of_lt_of_le hS.2 hb8.size⟩
          clear hb8 hm8 HP7
          refine hK _ _ (fun _ => hS) ?_
          clear hK
          (try simp only [Act.put, List.setIfInBounds_toArray, List.set_cons_zero, List.set_cons_succ])
          refine take0 (i := 5) (oi := _) (v := ?_) rfl (by kernel_rfl) (by kernel_rfl) (by kernel_rfl) (fun _ _ _ h => h) rfl (Or.inl ⟨by rfl, ?_⟩) (fun _ => hS) ?_
          rotate_left
          · intro w0; go_simp; (try simp only [zt]); try with_reducible rfl
          (try simp only [Act.put, List.setIfInBounds_toArray, List.set_cons_zero, List.set_cons_succ])
          refine oneT (i := 6) (by kernel_rfl) rfl (by rfl) (fun Kq hK => ?_)
          go_simp
          refine (picked_any (x.tdiv 2) 19 W1 HX2.out (by omega) (by omega) wt hwt).mono ?_
          rintro e W2 ⟨rfl, m9, hm9⟩
          have hb9' : Below W1.heap.size W1 W2 := by rw [hm9]; exact below_drewN _ _
          have HP9 := Lib.hid (HP8.out.keep hb9')
          replace hS : W2.cell? ⟨b9, 1, none⟩ = some (.slice O i do_) ∧ b9 < W2.heap.size := ⟨keepBox hb9' hS.1, Nat.lt_of_lt_of_le hS.2 hb9'.size⟩
          clear hb9' hm9 HP8
          refine hK _ _ (fun _ => hS) ?_
          clear hK
          (try simp only [Act.put, List.setIfInBounds_toArray, List.set_cons_zero, List.set_cons_succ])
          refine take0 (i := 7) (oi := _) (v := ?_) rfl (by kernel_rfl) (by kernel_rfl) (by kernel_rfl) (fun _ _ _ h => h) rfl (Or.inl ⟨by rfl, ?_⟩) (fun _ => hS) ?_
          rotate_left
          · intro w0; go_simp; (try simp only [zw]); try with_reducible rfl
          (try simp only [Act.put, List.setIfInBounds_toArray, List.set_cons_zero, List.set_cons_succ])
          refine oneT (i := 8) (by kernel_rfl) rfl (by rfl) (fun Kq hK => ?_)
          go_simp
          try rw [zw]
          obtain ⟨W3, hv1⟩ : ∃ z : World, z = W2.alloc (.cells #[.int .i64 (wt - 9)] 3) := ⟨_, rfl⟩
          have hbn : Below W2.heap.size W2 W3 := by rw [hv1]; exact below_new _ _
          have SQ : Hid (Own 3 W3 W2.heap.size (some ⟨W2.heap.size, 0, none⟩) 1 1 [.int .i64 (wt - 9)]) := by rw [hv1]; exact own_new 3 W2 W2.heap.size [.int .i64 (wt - 9)] rfl (Nat.le_refl _) (by simp [maxLen])
          have HPa := Lib.hid (HP9.out.keep hbn)
          replace hS : W3.cell? ⟨b9, 1, none⟩ = some (.slice O i do_) ∧ b9 < W3.heap.size := ⟨keepBox hbn hS.1, Nat.lt_of_lt_of_le hS.2 hbn.size⟩
          rw [← hv1]
          clear hv1 hbn HP9
          refine hK _ _ (fun _ => hS) ?_
          clear hK
          (try simp only [Act.put, List.setIfInBounds_toArray, List.set_cons_zero, List.set_cons_succ])
          refine oneT (i := 9) (by kernel_rfl) rfl (by rfl) (fun Kq hK => ?_)
          have hz9 := HPa.out.bl.size
          refine wp_append_sl _ (.tmp 60) (.tmp 67) 22 rfl w.heap.size 3 i0 _ 8 Tryz.underlying22 hi0 hz0 hz1 hz2 rfl O i do_ _ rfl HPa.out.o (some ⟨W2.heap.size, 0, none⟩) 1 1 [.int .i64 (wt - 9)] rfl SQ.out.sl (by simp [Value.oneCell']) (by simp only [maxLen]; omega) (by omega) hz9 ?_
          intro O2 do2 W4 hO2 hG2 hA2
          have hb4 := HPa.out.bx.ownGrown HPa.out.o hG2 (by decide)
          have k1 := hb4.cell 1
          have k3 := hb4.frozen 1
          have kl := hb4.lt
          simp at k1
          have HWE : Hid ((tsH raw (i + 1)).map (·.2) = (tsH raw i).map (·.2) ++ [wt - 9]) := by show _ = _; rw [tsH_succ, List.map_append, HWT.out]; simp
          have HPb : Hid (HpSt w (W4.setCell ⟨b9, 1, none⟩ (.slice O2 (i + 1) do2)) b9 Q2 (i + 1) dq2 L2 (i + 1) dl2 O2 (i + 1) do2 pv (asH bs (i + 1)) ((tsH raw (i + 1)).map (·.1)) ((tsH raw (i + 1)).map (·.2)) (some ⟨gB, 0, none⟩) cb bs) := by rw [HWE.out]; exact HPa.out.growO hO2 hG2 hA2 rfl
          replace hS : W4.cell? ⟨b9, 1, none⟩ = some (.slice O i do_) ∧ b9 < W4.heap.size := ⟨k1, kl⟩
          clear hO2 hG2 hA2 hb4 hz9 HPa SQ
          refine hK _ _ (fun _ => hS) ?_
          clear hK
          (try simp only [Act.put, List.setIfInBounds_toArray, List.set_cons_zero, List.set_cons_succ])
          (try simp only [Nat.zero_add])
          refine take0 (i := 10) (oi := _) (v := ?_) rfl (by kernel_rfl) (by kernel_rfl) (by kernel_rfl) (fun _ _ _ h => h) rfl (Or.inl ⟨by rfl, ?_⟩) (fun _ => hS) ?_
          rotate_left
          · intro w0; go_simp; with_reducible rfl
          (try simp only [Act.put, List.setIfInBounds_toArray, List.set_cons_zero, List.set_cons_succ])
          refine oneT (i := 11) (by kernel_rfl) rfl (by rfl) (fun Kq hK => ?_)
          go_simp
          refine hK _ _ (noT_no (by kernel_rfl)) ?_
          clear hK
          refine doneT (by kernel_rfl) ?_ _
          obtain ⟨W9, hW9⟩ : ∃ z : World, z = W4.setCell ⟨b9, 1, none⟩ (.slice O2 (i + 1) do2) := ⟨_, rfl⟩
          rw [← hW9] at HPb ⊢
          clear hW9 hS k1 k3 kl
          go_wp2_with fail
          go_roundw
          case rel => exact ⟨i + 1, dq2, dl2, do2, Q2, L2, O2, by omega, rfl, by go_num, HPb⟩
          case measure => simp [intOf] <;> omega
        · have hpn : (pk == 1) = false := by rw [beq_eq_false_iff_ne]; exact hp1
          have hbn : Below w5.heap.size w5 (w5.alloc (.cells #[.int .i64 ((i : Int) + 1)] 3)) := below_new _ _
          have SQ : Hid (Own 3 (w5.alloc (.cells #[.int .i64 ((i : Int) + 1)] 3)) w5.heap.size (some ⟨w5.heap.size, 0, none⟩) 1 1 [.int .i64 ((i : Int) + 1)]) := own_new 3 w5 w5.heap.size [.int .i64 ((i : Int) + 1)] rfl (Nat.le_refl _) (by simp [maxLen])
          have HLE : Hid ((tsH raw (i + 1)).map (·.1) = (tsH raw i).map (·.1) ++ [((i : Int) + 1)]) := by show _ = _; rw [tsH_succ, List.map_append, HLI.out]; simp [hp1]
          have HPn := Lib.hid (HP5.out.keep hbn)
          have hz9 := HPn.out.bl.size
          clear hbn
          go_wp2_with (first | (at_builtin; refine wpList_append_sl _ rfl (.tmp 54) (.tmp 56) 22 rfl w.heap.size 3 i0 _ 8 Tryz.underlying22 hi0 hz0 hz1 hz2 rfl L i dl _ rfl HPn.out.l (some ⟨w5.heap.size, 0, none⟩) 1 1 [.int .i64 ((i : Int) + 1)] rfl SQ.out.sl (by simp [Value.oneCell']) (by simp only [maxLen]; omega) (by omega) hz9 ?_; intro L2 dl2 w6 hO6 hG6 hA6; have hb6 := HPn.out.bx.ownGrown HPn.out.l hG6 (by decide); have k60 := hb6.cell 0; have k63 := hb6.frozen 0; have k6l := hb6.lt; simp at k60; have HP6 : Hid (HpSt w (w6.setCell ⟨b9, 0, none⟩ (.slice L2 (i + 1) dl2)) b9 Q2 (i + 1) dq2 L2 (i + 1) dl2 O i do_ pv (asH bs (i + 1)) ((tsH raw (i + 1)).map (·.1)) ((tsH raw i).map (·.2)) (some ⟨gB, 0, none⟩) cb bs) := (by rw [HLE.out]; exact HPn.out.growL hO6 hG6 hA6 rfl); clear hO6 hG6 hA6 hb6 hz9 HPn c0 c3 cl))
          obtain ⟨w7, hw7⟩ : ∃ z : World, z = w6.setCell ⟨b9, 0, none⟩ (.slice L2 (i + 1) dl2) := ⟨_, rfl⟩
          rw [← hw7] at HP6 ⊢
          clear hw7 k60 k63 k6l HP5
          obtain ⟨W0, hwd⟩ : ∃ z : World, z = w7.drew := ⟨_, rfl⟩
          have hbd0 : Below w7.heap.size w7 W0 := by rw [hwd]; exact below_drewN _ 1
          have HP7 := Lib.hid (HP6.out.keep hbd0)
          have c1 := HP7.out.bx.cell 1
          have cl := HP7.out.bx.lt
          simp at c1
          have hS : W0.cell? ⟨b9, 1, none⟩ = some (.slice O i do_) ∧ b9 < W0.heap.size := ⟨c1, cl⟩
          refine wp_region_tail (fun w' => w'.cell? ⟨b9, 1, none⟩ = some (.slice O i do_) ∧ b9 < w'.heap.size) [11] (by kernel_rfl) ?_
          change wpAnyT _ _ _ _ _ _ _ _ _ w7.drew
          rw [← hwd]
          clear hwd hbd0 HP6 c1 cl
          refine take0 (i := 0) (oi := _) (v := ?_) rfl (by kernel_rfl) (by kernel_rfl) (by kernel_rfl) (fun _ _ _ h => h) rfl (Or.inl ⟨by rfl, ?_⟩) (fun _ => hS) ?_
          rotate_left
          · intro w0; go_simp; with_reducible rfl
          (try simp only [Act.put, List.setIfInBounds_toArray, List.set_cons_zero, List.set_cons_succ])
          refine takeS (i := 1) (oi := _) (v := ?_) rfl (by kernel_rfl) (by kernel_rfl) (by kernel_rfl) (fun _ _ _ h => h) rfl (by kernel_rfl) (by kernel_rfl) (Or.inl ⟨by rfl, ?_⟩) hS ?_
          rotate_left
          · intro w0 hSw; (try dsimp only at hSw); go_simp; with_reducible rfl
          (try simp only [Act.put, List.setIfInBounds_toArray, List.set_cons_zero, List.set_cons_succ])
          refine take0 (i := 2) (oi := _) (v := ?_) rfl (by kernel_rfl) (by kernel_rfl) (by kernel_rfl) (fun _ _ _ h => h) rfl (Or.inl ⟨by rfl, ?_⟩) (fun _ => hS) ?_
          rotate_left
          · intro w0; go_simp; with_reducible rfl
          (try simp only [Act.put, List.setIfInBounds_toArray, List.set_cons_zero, List.set_cons_succ])
          refine take0 (i := 3) (oi := _) (v := ?_) rfl (by kernel_rfl) (by kernel_rfl) (by kernel_rfl) (fun _ _ _ h => h) rfl (Or.inl ⟨by rfl, ?_⟩) (fun _ => hS) ?_
          rotate_left
          · intro w0; go_simp; with_reducible rfl
          (try simp only [Act.put, List.setIfInBounds_toArray, List.set_cons_zero, List.set_cons_succ])
          refine oneT (i := 4) (by kernel_rfl) rfl (by rfl) (fun Kq hK => ?_)
          go_simp
          refine (kat_any A m d raw i W0 (H.out.keep HP7.out.bl) (by omega) x hx).mono ?_
          rintro e W1 ⟨rfl, m8, hm8⟩
          have hb8 : Below W0.heap.size W0 W1 := by rw [hm8]; exact below_drewN _ _
          have HP8 := Lib.hid (HP7.out.keep hb8)
          replace hS : W1.cell? ⟨b9, 1, none⟩ = some (.slice O i do_) ∧ b9 < W1.heap.size := ⟨keepBox hb8 hS.1, Nat.lt_of_lt_of_le hS.2 hb8.size⟩
          clear hb8 hm8 HP7
          refine hK _ _ (fun _ => hS) ?_
          clear hK
          (try simp only [Act.put, List.setIfInBounds_toArray, List.set_cons_zero, List.set_cons_succ])
          refine take0 (i := 5) (oi := _) (v := ?_) rfl (by kernel_rfl) (by kernel_rfl) (by kernel_rfl) (fun _ _ _ h => h) rfl (Or.inl ⟨by rfl, ?_⟩) (fun _ => hS) ?_
          rotate_left
          · intro w0; go_simp; (try simp only [zt]); try with_reducible rfl
          (try simp only [Act.put, List.setIfInBounds_toArray, List.set_cons_zero, List.set_cons_succ])
          refine oneT (i := 6) (by kernel_rfl) rfl (by rfl) (fun Kq hK => ?_)
          go_simp
          refine (picked_any (x.tdiv 2) 19 W1 HX2.out (by omega) (by omega) wt hwt).mono ?_
          rintro e W2 ⟨rfl, m9, hm9⟩
          have hb9' : Below W1.heap.size W1 W2 := by rw [hm9]; exact below_drewN _ _
          have HP9 := Lib.hid (HP8.out.keep hb9')
          replace hS : W2.cell? ⟨b9, 1, none⟩ = some (.slice O i do_) ∧ b9 < W2.heap.size := ⟨keepBox hb9' hS.1, Nat.lt_of_lt_of_le hS.2 hb9'.size⟩
          clear hb9' hm9 HP8
          refine hK _ _ (fun _ => hS) ?_
          clear hK
          (try simp only [Act.put, List.setIfInBounds_toArray, List.set_cons_zero, List.set_cons_succ])
          refine take0 (i := 7) (oi := _) (v := ?_) rfl (by kernel_rfl) (by kernel_rfl) (by kernel_rfl) (fun _ _ _ h => h) rfl (Or.inl ⟨by rfl, ?_⟩) (fun _ => hS) ?_
          rotate_left
          · intro w0; go_simp; (try simp only [zw]); try with_reducible rfl
          (try simp only [Act.put, List.setIfInBounds_toArray, List.set_cons_zero, List.set_cons_succ])
          refine oneT (i := 8) (by kernel_rfl) rfl (by rfl) (fun Kq hK => ?_)
          go_simp
          try rw [zw]
          obtain ⟨W3, hv1⟩ : ∃ z : World, z = W2.alloc (.cells #[.int .i64 (wt - 9)] 3) := ⟨_, rfl⟩
          have hbn : Below W2.heap.size W2 W3 := by rw [hv1]; exact below_new _ _
          have SQ : Hid (Own 3 W3 W2.heap.size (some ⟨W2.heap.size, 0, none⟩) 1 1 [.int .i64 (wt - 9)]) := by rw [hv1]; exact own_new 3 W2 W2.heap.size [.int .i64 (wt - 9)] rfl (Nat.le_refl _) (by simp [maxLen])
          have HPa := Lib.hid (HP9.out.keep hbn)
          replace hS : W3.cell? ⟨b9, 1, none⟩ = some (.slice O i do_) ∧ b9 < W3.heap.size := ⟨keepBox hbn hS.1, Nat.lt_of_lt_of_le hS.2 hbn.size⟩
          rw [← hv1]
          clear hv1 hbn HP9
          refine hK _ _ (fun _ => hS) ?_
          clear hK
          (try simp only [Act.put, List.setIfInBounds_toArray, List.set_cons_zero, List.set_cons_succ])
          refine oneT (i := 9) (by kernel_rfl) rfl (by rfl) (fun Kq hK => ?_)
          have hz9 := HPa.out.bl.size
          refine wp_append_sl _ (.tmp 60) (.tmp 67) 22 rfl w.heap.size 3 i0 _ 8 Tryz.underlying22 hi0 hz0 hz1 hz2 rfl O i do_ _ rfl HPa.out.o (some ⟨W2.heap.size, 0, none⟩) 1 1 [.int .i64 (wt - 9)] rfl SQ.out.sl (by simp [Value.oneCell']) (by simp only [maxLen]; omega) (by omega) hz9 ?_
          intro O2 do2 W4 hO2 hG2 hA2
          have hb4 := HPa.out.bx.ownGrown HPa.out.o hG2 (by decide)
          have k1 := hb4.cell 1
          have k3 := hb4.frozen 1
          have kl := hb4.lt
          simp at k1
          have HWE : Hid ((tsH raw (i + 1)).map (·.2) = (tsH raw i).map (·.2) ++ [wt - 9]) := by show _ = _; rw [tsH_succ, List.map_append, HWT.out]; simp
          have HPb : Hid (HpSt w (W4.setCell ⟨b9, 1, none⟩ (.slice O2 (i + 1) do2)) b9 Q2 (i + 1) dq2 L2 (i + 1) dl2 O2 (i + 1) do2 pv (asH bs (i + 1)) ((tsH raw (i + 1)).map (·.1)) ((tsH raw (i + 1)).map (·.2)) (some ⟨gB, 0, none⟩) cb bs) := by rw [HWE.out]; exact HPa.out.growO hO2 hG2 hA2 rfl
          replace hS : W4.cell? ⟨b9, 1, none⟩ = some (.slice O i do_) ∧ b9 < W4.heap.size := ⟨k1, kl⟩
          clear hO2 hG2 hA2 hb4 hz9 HPa SQ
          refine hK _ _ (fun _ => hS) ?_
          clear hK
          (try simp only [Act.put, List.setIfInBounds_toArray, List.set_cons_zero, List.set_cons_succ])
          (try simp only [Nat.zero_add])
          refine take0 (i := 10) (oi := _) (v := ?_) rfl (by kernel_rfl) (by kernel_rfl) (by kernel_rfl) (fun _ _ _ h => h) rfl (Or.inl ⟨by rfl, ?_⟩) (fun _ => hS) ?_
          rotate_left
          · intro w0; go_simp; with_reducible rfl
          (try simp only [Act.put, List.setIfInBounds_toArray, List.set_cons_zero, List.set_cons_succ])
          refine oneT (i := 11) (by kernel_rfl) rfl (by rfl) (fun Kq hK => ?_)
          go_simp
          refine hK _ _ (noT_no (by kernel_rfl)) ?_
          clear hK
          refine doneT (by kernel_rfl) ?_ _
          obtain ⟨W9, hW9⟩ : ∃ z : World, z = W4.setCell ⟨b9, 1, none⟩ (.slice O2 (i + 1) do2) := ⟨_, rfl⟩
          rw [← hW9] at HPb ⊢
          clear hW9 hS k1 k3 kl
          go_wp2_with fail
          go_roundw
          case rel => exact ⟨i + 1, dq2, dl2, do2, Q2, L2, O2, by omega, rfl, by go_num, HPb⟩
          case measure => simp [intOf] <;> omega
    · obtain rfl : i = 4 := by omega
      have HTU : Hid (UpT 4 (tsH raw 4)) := tsH_up raw
      have htb : ∀ t ∈ tsH raw 4, -1000 ≤ t.2 ∧ t.2 ≤ 1000 := fun t ht => by have := tsH_bd raw 4 t ht; omega
      have HIL : Hid (Ints wr L 4 dl ((tsH raw 4).map (·.1))) := HP.out.l.ints (fun z hz => by obtain ⟨t, ht, rfl⟩ := List.mem_map.1 hz; have := HTU.out.1 t ht; unfold I64; omega)
      have HIO : Hid (Ints wr O 4 do_ ((tsH raw 4).map (·.2))) := HP.out.o.ints (fun z hz => by obtain ⟨t, ht, rfl⟩ := List.mem_map.1 hz; have := htb t ht; unfold I64; omega)
      have HIQ : Hid (Ints wr Q 4 dq (asH bs 4)) := HP.out.q.ints (fun z hz => by have := (asH_lits bs).1 z hz; unfold I64; omega)
      have HIB : Hid (Bools wr (some ⟨gB, 0, none⟩) 4 cb bs) := HP.out.b.sl
      have HCLA := clauses_any L O 4 dl do_ (tsH raw 4) pv 4 wr HIL.out HIO.out HTU.out (by omega) (by omega) (by omega) htb (by omega)
      have hlaw := heaps_law hbl HTU.out (by rw [tsH_len]; omega) pv
      obtain ⟨cl, hcl⟩ : ∃ z, Hid (clsN (fulF (tsH raw 4) pv).1 4 (fulF (tsH raw 4) pv).2 = z) := ⟨_, rfl⟩
      obtain ⟨V, hV⟩ : ∃ z : Int, Hid ((cl.1 : Int) = z) := ⟨_, rfl⟩
      rw [hcl.out] at HCLA
      rw [hcl.out, hV.out] at hlaw
      have HBES : Hid (besideR V cl.2 (asH bs 4) = (0, 0)) := hlaw.1
      obtain ⟨iv, hiv⟩ : ∃ z, Hid (decide (pv ≤ sumT bs (tsH raw 4)) = z) := ⟨_, rfl⟩
      have HTB := Lib.hid htb
      have c0 := HP.out.bx.cell 0
      have c1 := HP.out.bx.cell 1
      have c2 := HP.out.bx.cell 2
      have cl9 := HP.out.bx.lt
      simp at c0 c1 c2
      clear hlaw htb
      go_wp2_with fail
      refine HCLA.mono ?_
      rintro e wa ⟨C, nC, cC, rfl, hC, hba⟩
      rw [hV.out]
      have HPa := Lib.hid (HP.out.keep hba)
      have HCa := Lib.hid hC
      have c0 := HPa.out.bx.cell 0
      have c1 := HPa.out.bx.cell 1
      have c2 := HPa.out.bx.cell 2
      have cl9 := HPa.out.bx.lt
      simp at c0 c1 c2
      obtain ⟨wb, hwb⟩ : ∃ z : World, Hid (z = wa.alloc (.cells #[.int .i64 V, .slice C nC cC] 25)) := ⟨_, rfl⟩
      obtain ⟨wc, hwc⟩ : ∃ z : World, Hid (z = wb.alloc (.cells #[.int .i64 0, .int .i64 0] 28)) := ⟨_, rfl⟩
      have hbb : Below wa.heap.size wa wb := by rw [hwb.out]; exact below_new _ _
      have hbc : Below wb.heap.size wb wc := by rw [hwc.out]; exact below_new _ _
      have hac : Below wa.heap.size wa wc := below_next hbb hbc
      have K14 : Hid (Blk wc wa.heap.size 25 #[.int .i64 V, .slice C nC cC]) := by
        have h9 : Blk wb wa.heap.size 25 #[.int .i64 V, .slice C nC cC] := by rw [hwb.out]; exact Blk.new _ _ _
        exact h9.keep hbc
      have hsb : wb.heap.size = wa.heap.size + 1 := by rw [hwb.out]; simp
      have K15 : Hid (Blk wc (wa.heap.size + 1) 28 #[.int .i64 0, .int .i64 0]) := by rw [← hsb, hwc.out]; exact Blk.new _ _ _
      obtain ⟨b14, h14⟩ : ∃ z : Nat, Hid (wa.heap.size = z) := ⟨_, rfl⟩
      obtain ⟨b15, h15⟩ : ∃ z : Nat, Hid (wa.heap.size + 1 = z) := ⟨_, rfl⟩
      rw [h14.out] at K14
      rw [h15.out] at K15
      have HPc := Lib.hid (HPa.out.keep hac)
      have HCc := Lib.hid (HCa.out.keep hac)
      have hbac := below_next hba hac
      have HHO := holds_any L O (some ⟨gB, 0, none⟩) 4 dl do_ 4 cb (tsH raw 4) pv bs wc (HIL.out.keep hbac) (HIO.out.keep hbac) (HIB.out.keep hbac) HTU.out (by omega) (by omega) HTB.out (by omega)
      rw [hiv.out] at HHO
      have HQc := Lib.hid (HIQ.out.keep hbac)
      clear hba hbb hbc hac hbac hC HP HPa HCa HCLA HIL HIO HIB HIQ hsb
      go_wp2_with fail
      rw [← hwb.out, ← hwc.out]
      try rw [h15.out]
      try rw [h14.out]
      refine HHO.mono ?_
      rintro e wd ⟨rfl, hbd'⟩
      have K14d := Lib.hid (K14.out.keep hbd')
      have K15d := Lib.hid (K15.out.keep hbd')
      have HPd := Lib.hid (HPc.out.keep hbd')
      have HCd := Lib.hid (HCc.out.keep hbd')
      have HQd := Lib.hid (HQc.out.keep hbd')
      obtain ⟨we, hwe⟩ : ∃ z : World, Hid (z = wd.alloc (.cells #[.int .i64 0, .int .i64 0] 28)) := ⟨_, rfl⟩
      have hbe : Below wd.heap.size wd we := by rw [hwe.out]; exact below_new _ _
      have K14e := Lib.hid (K14d.out.keep hbe)
      have HPe := Lib.hid (HPd.out.keep hbe)
      have HCe := Lib.hid (HCd.out.keep hbe)
      have HQe := Lib.hid (HQd.out.keep hbe)
      have f0 := K15d.out.cell 0
      have f1 := K15d.out.lt
      simp at f0
      clear hbd' hbe K14 K15 HPc HCc HQc HHO hwb hwc h14 h15 K14d HPd HCd HQd c0 c1 c2 cl9
      go_wp2_with fail
      rw [← hwe.out]
      refine (sure_any we).mono ?_
      rintro e wf ⟨rfl, hbf⟩
      have K14f := Lib.hid (K14e.out.keep hbf)
      have HBf := Lib.hid (below_next HPe.out.bl hbf)
      have HCf := Lib.hid (HCe.out.keep hbf)
      have HQf := Lib.hid (HQe.out.keep hbf)
      have HNN : Hid (C = none → cC = 0) := ownP_nil_ HCf.out
      clear hbf hwe K14e HPe HCe HQe K15d f0 f1
      go_upto_region 19 with fail
      go_cut [18, 19] from 94 (fun s18 s19 w9 => ∃ (bA bB : Nat) (st9 : Int) (hb9 : Option Addr) (hn9 hc9 : Nat) (S9 : Option Addr) (ns9 cs9 : Nat) (K9 : Option Addr) (nk9 ck9 : Nat) (used9 : Int), s18 = .pointer (some ⟨bA, 0, none⟩) ∧ s19 = .pointer (some ⟨bB, 0, none⟩) ∧ Hid (Below wf.heap.size wf w9) ∧ Hid (Blk w9 bA 46 #[.int .i64 st9, .slice hb9 hn9 hc9, .slice S9 ns9 cs9, .slice K9 nk9 ck9, .int .i64 used9]) ∧ Hid (Blk w9 bB 28 #[.int .i64 0, .int .i64 0]) ∧ Hid ((st9 = 1 ∧ iv = true) ∨ (st9 = 2 ∧ iv = false) ∨ st9 = 3))
      case first =>
        obtain ⟨wz, hwz⟩ : ∃ z : World, z = wf.drew := ⟨_, rfl⟩
        have hbz : Below wf.heap.size wf wz := by rw [hwz]; exact below_drewN _ 1
        have hzd := Lib.hid hbz
        have HCz := Lib.hid (HCf.out.keep hbz)
        have K14z := Lib.hid (K14f.out.keep hbz)
        have HQI := Lib.hid (HQf.out.keep hbz)
        have kz0 := K14z.out.cell 0
        have kz1 := K14z.out.cell 1
        have kz4 := K14z.out.lt
        simp at kz0 kz1
        have hS : wz.cell? ⟨b14, 0, none⟩ = some (.int .i64 V) ∧ wz.cell? ⟨b14, 1, none⟩ = some (.slice C nC cC) := ⟨kz0, kz1⟩
        have HZ0 := Lib.hid (Below.refl wz.heap.size wz)
        have HLL : Hid (∀ a, C = some a → a.block < wz.heap.size) := ownP_lt_ HCz.out
        clear hbz
        refine wp_region_tail (fun w' => w'.cell? ⟨b14, 0, none⟩ = some (.int .i64 V) ∧ w'.cell? ⟨b14, 1, none⟩ = some (.slice C nC cC)) [10, 11] (by kernel_rfl) ?_
        change wpAnyT _ _ _ _ _ _ _ _ _ wf.drew
        rw [← hwz]
        clear hwz
        refine takeS (i := 0) (oi := _) (v := ?_) rfl (by kernel_rfl) (by kernel_rfl) (by kernel_rfl) (fun _ _ _ h => h) rfl (by kernel_rfl) (by kernel_rfl) (Or.inl ⟨by rfl, ?_⟩) hS ?_
        rotate_left
        · intro w0 hSw; (try dsimp only at hSw); go_simp; with_reducible rfl
        (try simp only [Act.put, List.setIfInBounds_toArray, List.set_cons_zero, List.set_cons_succ])
        refine take0 (i := 1) (oi := _) (v := ?_) rfl (by kernel_rfl) (by kernel_rfl) (by kernel_rfl) (fun _ _ _ h => h) rfl (Or.inl ⟨by rfl, ?_⟩) (fun _ => hS) ?_
        rotate_left
        · intro w0; go_simp; with_reducible rfl
        (try simp only [Act.put, List.setIfInBounds_toArray, List.set_cons_zero, List.set_cons_succ])
        refine take0 (i := 2) (oi := _) (v := ?_) rfl (by kernel_rfl) (by kernel_rfl) (by kernel_rfl) (fun _ _ _ h => h) rfl (Or.inl ⟨by rfl, ?_⟩) (fun _ => hS) ?_
        rotate_left
        · intro w0; go_simp; with_reducible rfl
        (try simp only [Act.put, List.setIfInBounds_toArray, List.set_cons_zero, List.set_cons_succ])
        refine threeT_ (i := 3) (j := 8) (k := 9) (by kernel_rfl) rfl (by rfl) rfl (by rfl) rfl (by rfl) (fun Kq hK => ?_) (fun Kq hK => ?_) (fun Kq hK => ?_)
        · go_simp
          refine (optionsOf_any o wz HOP.out).mono ?_
          rintro e v1_ ⟨so, ro, ko, po, rfl, hs1, hs2, hs3, hs4, bw1⟩
          have HZ1 := Lib.hid (below_next HZ0.out bw1)
          have hS : v1_.cell? ⟨b14, 0, none⟩ = some (.int .i64 V) ∧ v1_.cell? ⟨b14, 1, none⟩ = some (.slice C nC cC) := ⟨keepBox HZ1.out kz0, keepBox HZ1.out kz1⟩
          clear bw1
          refine hK _ _ (fun _ => hS) ?_
          clear hK
          (try simp only [Act.put, List.setIfInBounds_toArray, List.set_cons_zero, List.set_cons_succ])
          refine threeT_ (i := 4) (j := 8) (k := 9) (by kernel_rfl) rfl (by rfl) rfl (by rfl) rfl (by rfl) (fun Kq hK => ?_) (fun Kq hK => ?_) (fun Kq hK => ?_)
          · go_simp
            have hlw := HZ1.out.size
            refine (cdcl_any C Q nC cC 4 dq cl.2 (asH bs 4) V v1_ (HCz.out.grid.keep HZ1.out) HNN.out (fun a ha => Nat.lt_of_lt_of_le (HLL.out a ha) hlw) (HQI.out.keep HZ1.out) HBES.out so ro ko po hs1 hs2 hs3 hs4 2000 (Nat.le_refl _) (core_ok _)).mono ?_
            rintro e v2_ ⟨st9, hb9, hn9, hc9, S9, ns9, cs9, K9, nk9, ck9, used9, rfl, bw2, ha9⟩
            have AN : Hid ((st9 = 1 ∧ iv = true) ∨ (st9 = 2 ∧ iv = false) ∨ st9 = 3) := by rw [← hV.out] at ha9; have h9 := heaps_answ hbl HTU.out (by rw [tsH_len]; omega) pv hcl.out ha9; rw [hiv.out] at h9; exact h9
            clear ha9 hlw
            have HZ2 := Lib.hid (below_next HZ1.out bw2)
            have hS : v2_.cell? ⟨b14, 0, none⟩ = some (.int .i64 V) ∧ v2_.cell? ⟨b14, 1, none⟩ = some (.slice C nC cC) := ⟨keepBox HZ2.out kz0, keepBox HZ2.out kz1⟩
            clear bw2
            refine hK _ _ (fun _ => hS) ?_
            clear hK
            (try simp only [Act.put, List.setIfInBounds_toArray, List.set_cons_zero, List.set_cons_succ])
            refine take0 (i := 5) (oi := _) (v := ?_) rfl (by kernel_rfl) (by kernel_rfl) (by kernel_rfl) (fun _ _ _ h => h) rfl (Or.inl ⟨by rfl, ?_⟩) (fun _ => hS) ?_
            rotate_left
            · intro w0; go_simp; with_reducible rfl
            (try simp only [Act.put, List.setIfInBounds_toArray, List.set_cons_zero, List.set_cons_succ])
            refine take0 (i := 6) (oi := _) (v := ?_) rfl (by kernel_rfl) (by kernel_rfl) (by kernel_rfl) (fun _ _ _ h => h) rfl (Or.inl ⟨by rfl, ?_⟩) (fun _ => hS) ?_
            rotate_left
            · intro w0; go_simp; with_reducible rfl
            (try simp only [Act.put, List.setIfInBounds_toArray, List.set_cons_zero, List.set_cons_succ])
            refine take0 (i := 7) (oi := _) (v := ?_) rfl (by kernel_rfl) (by kernel_rfl) (by kernel_rfl) (fun _ _ _ h => h) rfl (Or.inl ⟨by rfl, ?_⟩) (fun _ => hS) ?_
            rotate_left
            · intro w0; go_simp; with_reducible rfl
            (try simp only [Act.put, List.setIfInBounds_toArray, List.set_cons_zero, List.set_cons_succ])
            refine twoT (i := 8) (j := 9) (by kernel_rfl) rfl (by rfl) rfl (by rfl) (fun Kq hK => ?_) (fun Kq hK => ?_)
            · go_simp
              obtain ⟨v3_, h3⟩ : ∃ z : World, z = v2_.alloc (.cells #[.int .i64 0, .slice none 0 0, .slice none 0 0, .slice none 0 0, .int .i64 0] 46) := ⟨_, rfl⟩
              have bw3 : Below v2_.heap.size v2_ v3_ := by rw [h3]; exact below_new _ _
              have KA3 : Hid (Blk v3_ v2_.heap.size 46 #[.int .i64 0, .slice none 0 0, .slice none 0 0, .slice none 0 0, .int .i64 0]) := by rw [h3]; exact Blk.new _ _ _
              rw [← h3]
              obtain ⟨bA, hbA⟩ : ∃ z : Nat, v2_.heap.size = z := ⟨_, rfl⟩
              have hg3 : wz.heap.size ≤ bA := by rw [← hbA]; exact HZ2.out.size
              rw [hbA] at KA3 ⊢
              have HZ3 := Lib.hid (below_next HZ2.out bw3)
              have hS : v3_.cell? ⟨b14, 0, none⟩ = some (.int .i64 V) ∧ v3_.cell? ⟨b14, 1, none⟩ = some (.slice C nC cC) := ⟨keepBox HZ3.out kz0, keepBox HZ3.out kz1⟩
              clear h3 hbA
              clear bw3
              refine hK _ _ (fun _ => hS) ?_
              clear hK
              (try simp only [Act.put, List.setIfInBounds_toArray, List.set_cons_zero, List.set_cons_succ])
              refine oneT (i := 9) (by kernel_rfl) rfl (by rfl) (fun Kq hK => ?_)
              go_simp
              obtain ⟨v4_, h4⟩ : ∃ z : World, z = v3_.alloc (.cells #[.int .i64 0, .int .i64 0] 28) := ⟨_, rfl⟩
              have bw4 : Below v3_.heap.size v3_ v4_ := by rw [h4]; exact below_new _ _
              have KB4 : Hid (Blk v4_ v3_.heap.size 28 #[.int .i64 0, .int .i64 0]) := by rw [h4]; exact Blk.new _ _ _
              rw [← h4]
              obtain ⟨bB, hbB⟩ : ∃ z : Nat, v3_.heap.size = z := ⟨_, rfl⟩
              have hg4 : wz.heap.size ≤ bB := by rw [← hbB]; exact HZ3.out.size
              rw [hbB] at KB4 ⊢
              have hne : bA ≠ bB := by have := KA3.out.lt; omega
              have KA4 := Lib.hid (KA3.out.keep bw4)
              have HZ4 := Lib.hid (below_next HZ3.out bw4)
              have hS : v4_.cell? ⟨b14, 0, none⟩ = some (.int .i64 V) ∧ v4_.cell? ⟨b14, 1, none⟩ = some (.slice C nC cC) := ⟨keepBox HZ4.out kz0, keepBox HZ4.out kz1⟩
              clear h4 hbB
              clear bw4
              refine hK _ _ (fun _ => hS) ?_
              clear hK
              (try simp only [Act.put, List.setIfInBounds_toArray, List.set_cons_zero, List.set_cons_succ])
              refine oneT (i := 10) (by kernel_rfl) rfl (by rfl) (fun Kq hK => ?_)
              have e0 := KA4.out.cell 0
              have e1 := KA4.out.cell 1
              have e2 := KA4.out.cell 2
              have e3 := KA4.out.cell 3
              have e4 := KA4.out.cell 4
              have f0 := KA4.out.frozen 0
              have f1 := KA4.out.frozen 1
              have f2 := KA4.out.frozen 2
              have f3 := KA4.out.frozen 3
              have f4 := KA4.out.frozen 4
              simp at e0 e1 e2 e3 e4
              have le := KA4.out.lt
              have pp := put5 KA4.out KB4.out hne HZ4.out hg3 (.int .i64 st9) (.slice hb9 hn9 hc9) (.slice S9 ns9 cs9) (.slice K9 nk9 ck9) (.int .i64 used9)
              go_simp
              clear e0 e1 e2 e3 e4 f0 f1 f2 f3 f4 le
              refine hK _ _ (noT_no (by kernel_rfl)) ?_
              clear hK
              (try simp only [Act.put, List.setIfInBounds_toArray, List.set_cons_zero, List.set_cons_succ])
              obtain ⟨v5, hv5⟩ : ∃ z : World, z = (((((v4_.setCell ⟨bA, 0, none⟩ (.int .i64 st9)).setCell ⟨bA, 1, none⟩ (.slice hb9 hn9 hc9)).setCell ⟨bA, 2, none⟩ (.slice S9 ns9 cs9)).setCell ⟨bA, 3, none⟩ (.slice K9 nk9 ck9)).setCell ⟨bA, 4, none⟩ (.int .i64 used9)) := ⟨_, rfl⟩
              obtain ⟨p1, p2, p3⟩ := pp
              rw [← hv5] at p1 p2 p3 ⊢
              have P1 := Lib.hid p1
              have P2 := Lib.hid p2
              have P3 := Lib.hid p3
              clear hv5 p1 p2 p3
              refine oneT (i := 11) (by kernel_rfl) rfl (by rfl) (fun Kq hK => ?_)
              have e0 := P2.out.cell 0
              have e1 := P2.out.cell 1
              have f0 := P2.out.frozen 0
              have f1 := P2.out.frozen 1
              simp at e0 e1
              have le := P2.out.lt
              have pq := put2_ P1.out P2.out hne P3.out hg4
              go_simp
              clear e0 e1 f0 f1 le
              refine hK _ _ (noT_no (by kernel_rfl)) ?_
              clear hK
              (try simp only [Act.put, List.setIfInBounds_toArray, List.set_cons_zero, List.set_cons_succ])
              obtain ⟨v6, hv6⟩ : ∃ z : World, z = ((v5.setCell ⟨bB, 0, none⟩ (.int .i64 0)).setCell ⟨bB, 1, none⟩ (.int .i64 0)) := ⟨_, rfl⟩
              obtain ⟨p1, p2, p3⟩ := pq
              rw [← hv6] at p1 p2 p3 ⊢
              have Q1 := Lib.hid p1
              have Q2 := Lib.hid p2
              have Q3 := Lib.hid (below_next hzd.out p3)
              clear hv6 p1 p2 p3 P1 P2 P3
              refine doneT (by kernel_rfl) ?_ _
              try go_wp2_with fail
              go_meet
              case rel => exact ⟨bA, bB, st9, hb9, hn9, hc9, S9, ns9, cs9, K9, nk9, ck9, used9, rfl, rfl, Q3, Q1, Q2, AN⟩
            · go_simp
              obtain ⟨v5_, h5⟩ : ∃ z : World, z = v2_.alloc (.cells #[.int .i64 0, .int .i64 0] 28) := ⟨_, rfl⟩
              have bw5 : Below v2_.heap.size v2_ v5_ := by rw [h5]; exact below_new _ _
              have KB5 : Hid (Blk v5_ v2_.heap.size 28 #[.int .i64 0, .int .i64 0]) := by rw [h5]; exact Blk.new _ _ _
              rw [← h5]
              obtain ⟨bB, hbB⟩ : ∃ z : Nat, v2_.heap.size = z := ⟨_, rfl⟩
              have hg5 : wz.heap.size ≤ bB := by rw [← hbB]; exact HZ2.out.size
              rw [hbB] at KB5 ⊢
              have HZ5 := Lib.hid (below_next HZ2.out bw5)
              have hS : v5_.cell? ⟨b14, 0, none⟩ = some (.int .i64 V) ∧ v5_.cell? ⟨b14, 1, none⟩ = some (.slice C nC cC) := ⟨keepBox HZ5.out kz0, keepBox HZ5.out kz1⟩
              clear h5 hbB
              clear bw5
              refine hK _ _ (fun _ => hS) ?_
              clear hK
              (try simp only [Act.put, List.setIfInBounds_toArray, List.set_cons_zero, List.set_cons_succ])
              refine oneT (i := 8) (by kernel_rfl) rfl (by rfl) (fun Kq hK => ?_)
              go_simp
              obtain ⟨v6_, h6⟩ : ∃ z : World, z = v5_.alloc (.cells #[.int .i64 0, .slice none 0 0, .slice none 0 0, .slice none 0 0, .int .i64 0] 46) := ⟨_, rfl⟩
              have bw6 : Below v5_.heap.size v5_ v6_ := by rw [h6]; exact below_new _ _
              have KA6 : Hid (Blk v6_ v5_.heap.size 46 #[.int .i64 0, .slice none 0 0, .slice none 0 0, .slice none 0 0, .int .i64 0]) := by rw [h6]; exact Blk.new _ _ _
              rw [← h6]
              obtain ⟨bA, hbA⟩ : ∃ z : Nat, v5_.heap.size = z := ⟨_, rfl⟩
              have hg6 : wz.heap.size ≤ bA := by rw [← hbA]; exact HZ5.out.size
              rw [hbA] at KA6 ⊢
              have hne : bA ≠ bB := by have := KB5.out.lt; omega
              have KB6 := Lib.hid (KB5.out.keep bw6)
              have HZ6 := Lib.hid (below_next HZ5.out bw6)
              have hS : v6_.cell? ⟨b14, 0, none⟩ = some (.int .i64 V) ∧ v6_.cell? ⟨b14, 1, none⟩ = some (.slice C nC cC) := ⟨keepBox HZ6.out kz0, keepBox HZ6.out kz1⟩
              clear h6 hbA
              clear bw6
              refine hK _ _ (fun _ => hS) ?_
              clear hK
              (try simp only [Act.put, List.setIfInBounds_toArray, List.set_cons_zero, List.set_cons_succ])
              refine oneT (i := 10) (by kernel_rfl) rfl (by rfl) (fun Kq hK => ?_)
              have e0 := KA6.out.cell 0
              have e1 := KA6.out.cell 1
              have e2 := KA6.out.cell 2
              have e3 := KA6.out.cell 3
              have e4 := KA6.out.cell 4
              have f0 := KA6.out.frozen 0
              have f1 := KA6.out.frozen 1
              have f2 := KA6.out.frozen 2
              have f3 := KA6.out.frozen 3
              have f4 := KA6.out.frozen 4
              simp at e0 e1 e2 e3 e4
              have le := KA6.out.lt
              have pp := put5 KA6.out KB6.out hne HZ6.out hg6 (.int .i64 st9) (.slice hb9 hn9 hc9) (.slice S9 ns9 cs9) (.slice K9 nk9 ck9) (.int .i64 used9)
              go_simp
              clear e0 e1 e2 e3 e4 f0 f1 f2 f3 f4 le
              refine hK _ _ (noT_no (by kernel_rfl)) ?_
              clear hK
              (try simp only [Act.put, List.setIfInBounds_toArray, List.set_cons_zero, List.set_cons_succ])
              obtain ⟨v5, hv5⟩ : ∃ z : World, z = (((((v6_.setCell ⟨bA, 0, none⟩ (.int .i64 st9)).setCell ⟨bA, 1, none⟩ (.slice hb9 hn9 hc9)).setCell ⟨bA, 2, none⟩ (.slice S9 ns9 cs9)).setCell ⟨bA, 3, none⟩ (.slice K9 nk9 ck9)).setCell ⟨bA, 4, none⟩ (.int .i64 used9)) := ⟨_, rfl⟩
              obtain ⟨p1, p2, p3⟩ := pp
              rw [← hv5] at p1 p2 p3 ⊢
              have P1 := Lib.hid p1
              have P2 := Lib.hid p2
              have P3 := Lib.hid p3
              clear hv5 p1 p2 p3
              refine oneT (i := 11) (by kernel_rfl) rfl (by rfl) (fun Kq hK => ?_)
              have e0 := P2.out.cell 0
              have e1 := P2.out.cell 1
              have f0 := P2.out.frozen 0
              have f1 := P2.out.frozen 1
              simp at e0 e1
              have le := P2.out.lt
              have pq := put2_ P1.out P2.out hne P3.out hg5
              go_simp
              clear e0 e1 f0 f1 le
              refine hK _ _ (noT_no (by kernel_rfl)) ?_
              clear hK
              (try simp only [Act.put, List.setIfInBounds_toArray, List.set_cons_zero, List.set_cons_succ])
              obtain ⟨v6, hv6⟩ : ∃ z : World, z = ((v5.setCell ⟨bB, 0, none⟩ (.int .i64 0)).setCell ⟨bB, 1, none⟩ (.int .i64 0)) := ⟨_, rfl⟩
              obtain ⟨p1, p2, p3⟩ := pq
              rw [← hv6] at p1 p2 p3 ⊢
              have Q1 := Lib.hid p1
              have Q2 := Lib.hid p2
              have Q3 := Lib.hid (below_next hzd.out p3)
              clear hv6 p1 p2 p3 P1 P2 P3
              refine doneT (by kernel_rfl) ?_ _
              try go_wp2_with fail
              go_meet
              case rel => exact ⟨bA, bB, st9, hb9, hn9, hc9, S9, ns9, cs9, K9, nk9, ck9, used9, rfl, rfl, Q3, Q1, Q2, AN⟩
          · go_simp
            obtain ⟨v7_, h7⟩ : ∃ z : World, z = v1_.alloc (.cells #[.int .i64 0, .slice none 0 0, .slice none 0 0, .slice none 0 0, .int .i64 0] 46) := ⟨_, rfl⟩
            have bw7 : Below v1_.heap.size v1_ v7_ := by rw [h7]; exact below_new _ _
            have KA7 : Hid (Blk v7_ v1_.heap.size 46 #[.int .i64 0, .slice none 0 0, .slice none 0 0, .slice none 0 0, .int .i64 0]) := by rw [h7]; exact Blk.new _ _ _
            rw [← h7]
            obtain ⟨bA, hbA⟩ : ∃ z : Nat, v1_.heap.size = z := ⟨_, rfl⟩
            have hg7 : wz.heap.size ≤ bA := by rw [← hbA]; exact HZ1.out.size
            rw [hbA] at KA7 ⊢
            have HZ7 := Lib.hid (below_next HZ1.out bw7)
            have hS : v7_.cell? ⟨b14, 0, none⟩ = some (.int .i64 V) ∧ v7_.cell? ⟨b14, 1, none⟩ = some (.slice C nC cC) := ⟨keepBox HZ7.out kz0, keepBox HZ7.out kz1⟩
            clear h7 hbA
            clear bw7
            refine hK _ _ (fun _ => hS) ?_
            clear hK
            (try simp only [Act.put, List.setIfInBounds_toArray, List.set_cons_zero, List.set_cons_succ])
            refine twoT (i := 4) (j := 9) (by kernel_rfl) rfl (by rfl) rfl (by rfl) (fun Kq hK => ?_) (fun Kq hK => ?_)
            · go_simp
              have hlw := HZ7.out.size
              refine (cdcl_any C Q nC cC 4 dq cl.2 (asH bs 4) V v7_ (HCz.out.grid.keep HZ7.out) HNN.out (fun a ha => Nat.lt_of_lt_of_le (HLL.out a ha) hlw) (HQI.out.keep HZ7.out) HBES.out so ro ko po hs1 hs2 hs3 hs4 2000 (Nat.le_refl _) (core_ok _)).mono ?_
              rintro e v8_ ⟨st9, hb9, hn9, hc9, S9, ns9, cs9, K9, nk9, ck9, used9, rfl, bw8, ha9⟩
              have AN : Hid ((st9 = 1 ∧ iv = true) ∨ (st9 = 2 ∧ iv = false) ∨ st9 = 3) := by rw [← hV.out] at ha9; have h9 := heaps_answ hbl HTU.out (by rw [tsH_len]; omega) pv hcl.out ha9; rw [hiv.out] at h9; exact h9
              clear ha9 hlw
              have KA8 := Lib.hid (KA7.out.keep bw8)
              have HZ8 := Lib.hid (below_next HZ7.out bw8)
              have hS : v8_.cell? ⟨b14, 0, none⟩ = some (.int .i64 V) ∧ v8_.cell? ⟨b14, 1, none⟩ = some (.slice C nC cC) := ⟨keepBox HZ8.out kz0, keepBox HZ8.out kz1⟩
              clear bw8
              refine hK _ _ (fun _ => hS) ?_
              clear hK
              (try simp only [Act.put, List.setIfInBounds_toArray, List.set_cons_zero, List.set_cons_succ])
              refine take0 (i := 5) (oi := _) (v := ?_) rfl (by kernel_rfl) (by kernel_rfl) (by kernel_rfl) (fun _ _ _ h => h) rfl (Or.inl ⟨by rfl, ?_⟩) (fun _ => hS) ?_
              rotate_left
              · intro w0; go_simp; with_reducible rfl
              (try simp only [Act.put, List.setIfInBounds_toArray, List.set_cons_zero, List.set_cons_succ])
              refine take0 (i := 6) (oi := _) (v := ?_) rfl (by kernel_rfl) (by kernel_rfl) (by kernel_rfl) (fun _ _ _ h => h) rfl (Or.inl ⟨by rfl, ?_⟩) (fun _ => hS) ?_
              rotate_left
              · intro w0; go_simp; with_reducible rfl
              (try simp only [Act.put, List.setIfInBounds_toArray, List.set_cons_zero, List.set_cons_succ])
              refine take0 (i := 7) (oi := _) (v := ?_) rfl (by kernel_rfl) (by kernel_rfl) (by kernel_rfl) (fun _ _ _ h => h) rfl (Or.inl ⟨by rfl, ?_⟩) (fun _ => hS) ?_
              rotate_left
              · intro w0; go_simp; with_reducible rfl
              (try simp only [Act.put, List.setIfInBounds_toArray, List.set_cons_zero, List.set_cons_succ])
              refine oneT (i := 9) (by kernel_rfl) rfl (by rfl) (fun Kq hK => ?_)
              go_simp
              obtain ⟨v9_, h9⟩ : ∃ z : World, z = v8_.alloc (.cells #[.int .i64 0, .int .i64 0] 28) := ⟨_, rfl⟩
              have bw9 : Below v8_.heap.size v8_ v9_ := by rw [h9]; exact below_new _ _
              have KB9 : Hid (Blk v9_ v8_.heap.size 28 #[.int .i64 0, .int .i64 0]) := by rw [h9]; exact Blk.new _ _ _
              rw [← h9]
              obtain ⟨bB, hbB⟩ : ∃ z : Nat, v8_.heap.size = z := ⟨_, rfl⟩
              have hg9 : wz.heap.size ≤ bB := by rw [← hbB]; exact HZ8.out.size
              rw [hbB] at KB9 ⊢
              have hne : bA ≠ bB := by have := KA8.out.lt; omega
              have KA9 := Lib.hid (KA8.out.keep bw9)
              have HZ9 := Lib.hid (below_next HZ8.out bw9)
              have hS : v9_.cell? ⟨b14, 0, none⟩ = some (.int .i64 V) ∧ v9_.cell? ⟨b14, 1, none⟩ = some (.slice C nC cC) := ⟨keepBox HZ9.out kz0, keepBox HZ9.out kz1⟩
              clear h9 hbB
              clear bw9
              refine hK _ _ (fun _ => hS) ?_
              clear hK
              (try simp only [Act.put, List.setIfInBounds_toArray, List.set_cons_zero, List.set_cons_succ])
              refine oneT (i := 10) (by kernel_rfl) rfl (by rfl) (fun Kq hK => ?_)
              have e0 := KA9.out.cell 0
              have e1 := KA9.out.cell 1
              have e2 := KA9.out.cell 2
              have e3 := KA9.out.cell 3
              have e4 := KA9.out.cell 4
              have f0 := KA9.out.frozen 0
              have f1 := KA9.out.frozen 1
              have f2 := KA9.out.frozen 2
              have f3 := KA9.out.frozen 3
              have f4 := KA9.out.frozen 4
              simp at e0 e1 e2 e3 e4
              have le := KA9.out.lt
              have pp := put5 KA9.out KB9.out hne HZ9.out hg7 (.int .i64 st9) (.slice hb9 hn9 hc9) (.slice S9 ns9 cs9) (.slice K9 nk9 ck9) (.int .i64 used9)
              go_simp
              clear e0 e1 e2 e3 e4 f0 f1 f2 f3 f4 le
              refine hK _ _ (noT_no (by kernel_rfl)) ?_
              clear hK
              (try simp only [Act.put, List.setIfInBounds_toArray, List.set_cons_zero, List.set_cons_succ])
              obtain ⟨v5, hv5⟩ : ∃ z : World, z = (((((v9_.setCell ⟨bA, 0, none⟩ (.int .i64 st9)).setCell ⟨bA, 1, none⟩ (.slice hb9 hn9 hc9)).setCell ⟨bA, 2, none⟩ (.slice S9 ns9 cs9)).setCell ⟨bA, 3, none⟩ (.slice K9 nk9 ck9)).setCell ⟨bA, 4, none⟩ (.int .i64 used9)) := ⟨_, rfl⟩
              obtain ⟨p1, p2, p3⟩ := pp
              rw [← hv5] at p1 p2 p3 ⊢
              have P1 := Lib.hid p1
              have P2 := Lib.hid p2
              have P3 := Lib.hid p3
              clear hv5 p1 p2 p3
              refine oneT (i := 11) (by kernel_rfl) rfl (by rfl) (fun Kq hK => ?_)
              have e0 := P2.out.cell 0
              have e1 := P2.out.cell 1
              have f0 := P2.out.frozen 0
              have f1 := P2.out.frozen 1
              simp at e0 e1
              have le := P2.out.lt
              have pq := put2_ P1.out P2.out hne P3.out hg9
              go_simp
              clear e0 e1 f0 f1 le
              refine hK _ _ (noT_no (by kernel_rfl)) ?_
              clear hK
              (try simp only [Act.put, List.setIfInBounds_toArray, List.set_cons_zero, List.set_cons_succ])
              obtain ⟨v6, hv6⟩ : ∃ z : World, z = ((v5.setCell ⟨bB, 0, none⟩ (.int .i64 0)).setCell ⟨bB, 1, none⟩ (.int .i64 0)) := ⟨_, rfl⟩
              obtain ⟨p1, p2, p3⟩ := pq
              rw [← hv6] at p1 p2 p3 ⊢
              have Q1 := Lib.hid p1
              have Q2 := Lib.hid p2
              have Q3 := Lib.hid (below_next hzd.out p3)
              clear hv6 p1 p2 p3 P1 P2 P3
              refine doneT (by kernel_rfl) ?_ _
              try go_wp2_with fail
              go_meet
              case rel => exact ⟨bA, bB, st9, hb9, hn9, hc9, S9, ns9, cs9, K9, nk9, ck9, used9, rfl, rfl, Q3, Q1, Q2, AN⟩
            · go_simp
              obtain ⟨v10_, h10⟩ : ∃ z : World, z = v7_.alloc (.cells #[.int .i64 0, .int .i64 0] 28) := ⟨_, rfl⟩
              have bw10 : Below v7_.heap.size v7_ v10_ := by rw [h10]; exact below_new _ _
              have KB10 : Hid (Blk v10_ v7_.heap.size 28 #[.int .i64 0, .int .i64 0]) := by rw [h10]; exact Blk.new _ _ _
              rw [← h10]
              obtain ⟨bB, hbB⟩ : ∃ z : Nat, v7_.heap.size = z := ⟨_, rfl⟩
              have hg10 : wz.heap.size ≤ bB := by rw [← hbB]; exact HZ7.out.size
              rw [hbB] at KB10 ⊢
              have hne : bA ≠ bB := by have := KA7.out.lt; omega
              have KA10 := Lib.hid (KA7.out.keep bw10)
              have HZ10 := Lib.hid (below_next HZ7.out bw10)
              have hS : v10_.cell? ⟨b14, 0, none⟩ = some (.int .i64 V) ∧ v10_.cell? ⟨b14, 1, none⟩ = some (.slice C nC cC) := ⟨keepBox HZ10.out kz0, keepBox HZ10.out kz1⟩
              clear h10 hbB
              clear bw10
              refine hK _ _ (fun _ => hS) ?_
              clear hK
              (try simp only [Act.put, List.setIfInBounds_toArray, List.set_cons_zero, List.set_cons_succ])
              refine oneT (i := 4) (by kernel_rfl) rfl (by rfl) (fun Kq hK => ?_)
              go_simp
              have hlw := HZ10.out.size
              refine (cdcl_any C Q nC cC 4 dq cl.2 (asH bs 4) V v10_ (HCz.out.grid.keep HZ10.out) HNN.out (fun a ha => Nat.lt_of_lt_of_le (HLL.out a ha) hlw) (HQI.out.keep HZ10.out) HBES.out so ro ko po hs1 hs2 hs3 hs4 2000 (Nat.le_refl _) (core_ok _)).mono ?_
              rintro e v11_ ⟨st9, hb9, hn9, hc9, S9, ns9, cs9, K9, nk9, ck9, used9, rfl, bw11, ha9⟩
              have AN : Hid ((st9 = 1 ∧ iv = true) ∨ (st9 = 2 ∧ iv = false) ∨ st9 = 3) := by rw [← hV.out] at ha9; have h9 := heaps_answ hbl HTU.out (by rw [tsH_len]; omega) pv hcl.out ha9; rw [hiv.out] at h9; exact h9
              clear ha9 hlw
              have KA11 := Lib.hid (KA10.out.keep bw11)
              have KB11 := Lib.hid (KB10.out.keep bw11)
              have HZ11 := Lib.hid (below_next HZ10.out bw11)
              have hS : v11_.cell? ⟨b14, 0, none⟩ = some (.int .i64 V) ∧ v11_.cell? ⟨b14, 1, none⟩ = some (.slice C nC cC) := ⟨keepBox HZ11.out kz0, keepBox HZ11.out kz1⟩
              clear bw11
              refine hK _ _ (fun _ => hS) ?_
              clear hK
              (try simp only [Act.put, List.setIfInBounds_toArray, List.set_cons_zero, List.set_cons_succ])
              refine take0 (i := 5) (oi := _) (v := ?_) rfl (by kernel_rfl) (by kernel_rfl) (by kernel_rfl) (fun _ _ _ h => h) rfl (Or.inl ⟨by rfl, ?_⟩) (fun _ => hS) ?_
              rotate_left
              · intro w0; go_simp; with_reducible rfl
              (try simp only [Act.put, List.setIfInBounds_toArray, List.set_cons_zero, List.set_cons_succ])
              refine take0 (i := 6) (oi := _) (v := ?_) rfl (by kernel_rfl) (by kernel_rfl) (by kernel_rfl) (fun _ _ _ h => h) rfl (Or.inl ⟨by rfl, ?_⟩) (fun _ => hS) ?_
              rotate_left
              · intro w0; go_simp; with_reducible rfl
              (try simp only [Act.put, List.setIfInBounds_toArray, List.set_cons_zero, List.set_cons_succ])
              refine take0 (i := 7) (oi := _) (v := ?_) rfl (by kernel_rfl) (by kernel_rfl) (by kernel_rfl) (fun _ _ _ h => h) rfl (Or.inl ⟨by rfl, ?_⟩) (fun _ => hS) ?_
              rotate_left
              · intro w0; go_simp; with_reducible rfl
              (try simp only [Act.put, List.setIfInBounds_toArray, List.set_cons_zero, List.set_cons_succ])
              refine oneT (i := 10) (by kernel_rfl) rfl (by rfl) (fun Kq hK => ?_)
              have e0 := KA11.out.cell 0
              have e1 := KA11.out.cell 1
              have e2 := KA11.out.cell 2
              have e3 := KA11.out.cell 3
              have e4 := KA11.out.cell 4
              have f0 := KA11.out.frozen 0
              have f1 := KA11.out.frozen 1
              have f2 := KA11.out.frozen 2
              have f3 := KA11.out.frozen 3
              have f4 := KA11.out.frozen 4
              simp at e0 e1 e2 e3 e4
              have le := KA11.out.lt
              have pp := put5 KA11.out KB11.out hne HZ11.out hg7 (.int .i64 st9) (.slice hb9 hn9 hc9) (.slice S9 ns9 cs9) (.slice K9 nk9 ck9) (.int .i64 used9)
              go_simp
              clear e0 e1 e2 e3 e4 f0 f1 f2 f3 f4 le
              refine hK _ _ (noT_no (by kernel_rfl)) ?_
              clear hK
              (try simp only [Act.put, List.setIfInBounds_toArray, List.set_cons_zero, List.set_cons_succ])
              obtain ⟨v5, hv5⟩ : ∃ z : World, z = (((((v11_.setCell ⟨bA, 0, none⟩ (.int .i64 st9)).setCell ⟨bA, 1, none⟩ (.slice hb9 hn9 hc9)).setCell ⟨bA, 2, none⟩ (.slice S9 ns9 cs9)).setCell ⟨bA, 3, none⟩ (.slice K9 nk9 ck9)).setCell ⟨bA, 4, none⟩ (.int .i64 used9)) := ⟨_, rfl⟩
              obtain ⟨p1, p2, p3⟩ := pp
              rw [← hv5] at p1 p2 p3 ⊢
              have P1 := Lib.hid p1
              have P2 := Lib.hid p2
              have P3 := Lib.hid p3
              clear hv5 p1 p2 p3
              refine oneT (i := 11) (by kernel_rfl) rfl (by rfl) (fun Kq hK => ?_)
              have e0 := P2.out.cell 0
              have e1 := P2.out.cell 1
              have f0 := P2.out.frozen 0
              have f1 := P2.out.frozen 1
              simp at e0 e1
              have le := P2.out.lt
              have pq := put2_ P1.out P2.out hne P3.out hg10
              go_simp
              clear e0 e1 f0 f1 le
              refine hK _ _ (noT_no (by kernel_rfl)) ?_
              clear hK
              (try simp only [Act.put, List.setIfInBounds_toArray, List.set_cons_zero, List.set_cons_succ])
              obtain ⟨v6, hv6⟩ : ∃ z : World, z = ((v5.setCell ⟨bB, 0, none⟩ (.int .i64 0)).setCell ⟨bB, 1, none⟩ (.int .i64 0)) := ⟨_, rfl⟩
              obtain ⟨p1, p2, p3⟩ := pq
              rw [← hv6] at p1 p2 p3 ⊢
              have Q1 := Lib.hid p1
              have Q2 := Lib.hid p2
              have Q3 := Lib.hid (below_next hzd.out p3)
              clear hv6 p1 p2 p3 P1 P2 P3
              refine doneT (by kernel_rfl) ?_ _
              try go_wp2_with fail
              go_meet
              case rel => exact ⟨bA, bB, st9, hb9, hn9, hc9, S9, ns9, cs9, K9, nk9, ck9, used9, rfl, rfl, Q3, Q1, Q2, AN⟩
          · go_simp
            obtain ⟨v12_, h12⟩ : ∃ z : World, z = v1_.alloc (.cells #[.int .i64 0, .int .i64 0] 28) := ⟨_, rfl⟩
            have bw12 : Below v1_.heap.size v1_ v12_ := by rw [h12]; exact below_new _ _
            have KB12 : Hid (Blk v12_ v1_.heap.size 28 #[.int .i64 0, .int .i64 0]) := by rw [h12]; exact Blk.new _ _ _
            rw [← h12]
            obtain ⟨bB, hbB⟩ : ∃ z : Nat, v1_.heap.size = z := ⟨_, rfl⟩
            have hg12 : wz.heap.size ≤ bB := by rw [← hbB]; exact HZ1.out.size
            rw [hbB] at KB12 ⊢
            have HZ12 := Lib.hid (below_next HZ1.out bw12)
            have hS : v12_.cell? ⟨b14, 0, none⟩ = some (.int .i64 V) ∧ v12_.cell? ⟨b14, 1, none⟩ = some (.slice C nC cC) := ⟨keepBox HZ12.out kz0, keepBox HZ12.out kz1⟩
            clear h12 hbB
            clear bw12
            refine hK _ _ (fun _ => hS) ?_
            clear hK
            (try simp only [Act.put, List.setIfInBounds_toArray, List.set_cons_zero, List.set_cons_succ])
            refine twoT (i := 4) (j := 8) (by kernel_rfl) rfl (by rfl) rfl (by rfl) (fun Kq hK => ?_) (fun Kq hK => ?_)
            · go_simp
              have hlw := HZ12.out.size
              refine (cdcl_any C Q nC cC 4 dq cl.2 (asH bs 4) V v12_ (HCz.out.grid.keep HZ12.out) HNN.out (fun a ha => Nat.lt_of_lt_of_le (HLL.out a ha) hlw) (HQI.out.keep HZ12.out) HBES.out so ro ko po hs1 hs2 hs3 hs4 2000 (Nat.le_refl _) (core_ok _)).mono ?_
              rintro e v13_ ⟨st9, hb9, hn9, hc9, S9, ns9, cs9, K9, nk9, ck9, used9, rfl, bw13, ha9⟩
              have AN : Hid ((st9 = 1 ∧ iv = true) ∨ (st9 = 2 ∧ iv = false) ∨ st9 = 3) := by rw [← hV.out] at ha9; have h9 := heaps_answ hbl HTU.out (by rw [tsH_len]; omega) pv hcl.out ha9; rw [hiv.out] at h9; exact h9
              clear ha9 hlw
              have KB13 := Lib.hid (KB12.out.keep bw13)
              have HZ13 := Lib.hid (below_next HZ12.out bw13)
              have hS : v13_.cell? ⟨b14, 0, none⟩ = some (.int .i64 V) ∧ v13_.cell? ⟨b14, 1, none⟩ = some (.slice C nC cC) := ⟨keepBox HZ13.out kz0, keepBox HZ13.out kz1⟩
              clear bw13
              refine hK _ _ (fun _ => hS) ?_
              clear hK
              (try simp only [Act.put, List.setIfInBounds_toArray, List.set_cons_zero, List.set_cons_succ])
              refine take0 (i := 5) (oi := _) (v := ?_) rfl (by kernel_rfl) (by kernel_rfl) (by kernel_rfl) (fun _ _ _ h => h) rfl (Or.inl ⟨by rfl, ?_⟩) (fun _ => hS) ?_
              rotate_left
              · intro w0; go_simp; with_reducible rfl
              (try simp only [Act.put, List.setIfInBounds_toArray, List.set_cons_zero, List.set_cons_succ])
              refine take0 (i := 6) (oi := _) (v := ?_) rfl (by kernel_rfl) (by kernel_rfl) (by kernel_rfl) (fun _ _ _ h => h) rfl (Or.inl ⟨by rfl, ?_⟩) (fun _ => hS) ?_
              rotate_left
              · intro w0; go_simp; with_reducible rfl
              (try simp only [Act.put, List.setIfInBounds_toArray, List.set_cons_zero, List.set_cons_succ])
              refine take0 (i := 7) (oi := _) (v := ?_) rfl (by kernel_rfl) (by kernel_rfl) (by kernel_rfl) (fun _ _ _ h => h) rfl (Or.inl ⟨by rfl, ?_⟩) (fun _ => hS) ?_
              rotate_left
              · intro w0; go_simp; with_reducible rfl
              (try simp only [Act.put, List.setIfInBounds_toArray, List.set_cons_zero, List.set_cons_succ])
              refine oneT (i := 8) (by kernel_rfl) rfl (by rfl) (fun Kq hK => ?_)
              go_simp
              obtain ⟨v14_, h14⟩ : ∃ z : World, z = v13_.alloc (.cells #[.int .i64 0, .slice none 0 0, .slice none 0 0, .slice none 0 0, .int .i64 0] 46) := ⟨_, rfl⟩
              have bw14 : Below v13_.heap.size v13_ v14_ := by rw [h14]; exact below_new _ _
              have KA14 : Hid (Blk v14_ v13_.heap.size 46 #[.int .i64 0, .slice none 0 0, .slice none 0 0, .slice none 0 0, .int .i64 0]) := by rw [h14]; exact Blk.new _ _ _
              rw [← h14]
              obtain ⟨bA, hbA⟩ : ∃ z : Nat, v13_.heap.size = z := ⟨_, rfl⟩
              have hg14 : wz.heap.size ≤ bA := by rw [← hbA]; exact HZ13.out.size
              rw [hbA] at KA14 ⊢
              have hne : bA ≠ bB := by have := KB13.out.lt; omega
              have KB14 := Lib.hid (KB13.out.keep bw14)
              have HZ14 := Lib.hid (below_next HZ13.out bw14)
              have hS : v14_.cell? ⟨b14, 0, none⟩ = some (.int .i64 V) ∧ v14_.cell? ⟨b14, 1, none⟩ = some (.slice C nC cC) := ⟨keepBox HZ14.out kz0, keepBox HZ14.out kz1⟩
              clear h14 hbA
              clear bw14
              refine hK _ _ (fun _ => hS) ?_
              clear hK
              (try simp only [Act.put, List.setIfInBounds_toArray, List.set_cons_zero, List.set_cons_succ])
              refine oneT (i := 10) (by kernel_rfl) rfl (by rfl) (fun Kq hK => ?_)
              have e0 := KA14.out.cell 0
              have e1 := KA14.out.cell 1
              have e2 := KA14.out.cell 2
              have e3 := KA14.out.cell 3
              have e4 := KA14.out.cell 4
              have f0 := KA14.out.frozen 0
              have f1 := KA14.out.frozen 1
              have f2 := KA14.out.frozen 2
              have f3 := KA14.out.frozen 3
              have f4 := KA14.out.frozen 4
              simp at e0 e1 e2 e3 e4
              have le := KA14.out.lt
              have pp := put5 KA14.out KB14.out hne HZ14.out hg14 (.int .i64 st9) (.slice hb9 hn9 hc9) (.slice S9 ns9 cs9) (.slice K9 nk9 ck9) (.int .i64 used9)
              go_simp
              clear e0 e1 e2 e3 e4 f0 f1 f2 f3 f4 le
              refine hK _ _ (noT_no (by kernel_rfl)) ?_
              clear hK
              (try simp only [Act.put, List.setIfInBounds_toArray, List.set_cons_zero, List.set_cons_succ])
              obtain ⟨v5, hv5⟩ : ∃ z : World, z = (((((v14_.setCell ⟨bA, 0, none⟩ (.int .i64 st9)).setCell ⟨bA, 1, none⟩ (.slice hb9 hn9 hc9)).setCell ⟨bA, 2, none⟩ (.slice S9 ns9 cs9)).setCell ⟨bA, 3, none⟩ (.slice K9 nk9 ck9)).setCell ⟨bA, 4, none⟩ (.int .i64 used9)) := ⟨_, rfl⟩
              obtain ⟨p1, p2, p3⟩ := pp
              rw [← hv5] at p1 p2 p3 ⊢
              have P1 := Lib.hid p1
              have P2 := Lib.hid p2
              have P3 := Lib.hid p3
              clear hv5 p1 p2 p3
              refine oneT (i := 11) (by kernel_rfl) rfl (by rfl) (fun Kq hK => ?_)
              have e0 := P2.out.cell 0
              have e1 := P2.out.cell 1
              have f0 := P2.out.frozen 0
              have f1 := P2.out.frozen 1
              simp at e0 e1
              have le := P2.out.lt
              have pq := put2_ P1.out P2.out hne P3.out hg12
              go_simp
              clear e0 e1 f0 f1 le
              refine hK _ _ (noT_no (by kernel_rfl)) ?_
              clear hK
              (try simp only [Act.put, List.setIfInBounds_toArray, List.set_cons_zero, List.set_cons_succ])
              obtain ⟨v6, hv6⟩ : ∃ z : World, z = ((v5.setCell ⟨bB, 0, none⟩ (.int .i64 0)).setCell ⟨bB, 1, none⟩ (.int .i64 0)) := ⟨_, rfl⟩
              obtain ⟨p1, p2, p3⟩ := pq
              rw [← hv6] at p1 p2 p3 ⊢
              have Q1 := Lib.hid p1
              have Q2 := Lib.hid p2
              have Q3 := Lib.hid (below_next hzd.out p3)
              clear hv6 p1 p2 p3 P1 P2 P3
              refine doneT (by kernel_rfl) ?_ _
              try go_wp2_with fail
              go_meet
              case rel => exact ⟨bA, bB, st9, hb9, hn9, hc9, S9, ns9, cs9, K9, nk9, ck9, used9, rfl, rfl, Q3, Q1, Q2, AN⟩
            · go_simp
              obtain ⟨v15_, h15⟩ : ∃ z : World, z = v12_.alloc (.cells #[.int .i64 0, .slice none 0 0, .slice none 0 0, .slice none 0 0, .int .i64 0] 46) := ⟨_, rfl⟩
              have bw15 : Below v12_.heap.size v12_ v15_ := by rw [h15]; exact below_new _ _
              have KA15 : Hid (Blk v15_ v12_.heap.size 46 #[.int .i64 0, .slice none 0 0, .slice none 0 0, .slice none 0 0, .int .i64 0]) := by rw [h15]; exact Blk.new _ _ _
              rw [← h15]
              obtain ⟨bA, hbA⟩ : ∃ z : Nat, v12_.heap.size = z := ⟨_, rfl⟩
              have hg15 : wz.heap.size ≤ bA := by rw [← hbA]; exact HZ12.out.size
              rw [hbA] at KA15 ⊢
              have hne : bA ≠ bB := by have := KB12.out.lt; omega
              have KB15 := Lib.hid (KB12.out.keep bw15)
              have HZ15 := Lib.hid (below_next HZ12.out bw15)
              have hS : v15_.cell? ⟨b14, 0, none⟩ = some (.int .i64 V) ∧ v15_.cell? ⟨b14, 1, none⟩ = some (.slice C nC cC) := ⟨keepBox HZ15.out kz0, keepBox HZ15.out kz1⟩
              clear h15 hbA
              clear bw15
              refine hK _ _ (fun _ => hS) ?_
              clear hK
              (try simp only [Act.put, List.setIfInBounds_toArray, List.set_cons_zero, List.set_cons_succ])
              refine oneT (i := 4) (by kernel_rfl) rfl (by rfl) (fun Kq hK => ?_)
              go_simp
              have hlw := HZ15.out.size
              refine (cdcl_any C Q nC cC 4 dq cl.2 (asH bs 4) V v15_ (HCz.out.grid.keep HZ15.out) HNN.out (fun a ha => Nat.lt_of_lt_of_le (HLL.out a ha) hlw) (HQI.out.keep HZ15.out) HBES.out so ro ko po hs1 hs2 hs3 hs4 2000 (Nat.le_refl _) (core_ok _)).mono ?_
              rintro e v16_ ⟨st9, hb9, hn9, hc9, S9, ns9, cs9, K9, nk9, ck9, used9, rfl, bw16, ha9⟩
              have AN : Hid ((st9 = 1 ∧ iv = true) ∨ (st9 = 2 ∧ iv = false) ∨ st9 = 3) := by rw [← hV.out] at ha9; have h9 := heaps_answ hbl HTU.out (by rw [tsH_len]; omega) pv hcl.out ha9; rw [hiv.out] at h9; exact h9
              clear ha9 hlw
              have KA16 := Lib.hid (KA15.out.keep bw16)
              have KB16 := Lib.hid (KB15.out.keep bw16)
              have HZ16 := Lib.hid (below_next HZ15.out bw16)
              have hS : v16_.cell? ⟨b14, 0, none⟩ = some (.int .i64 V) ∧ v16_.cell? ⟨b14, 1, none⟩ = some (.slice C nC cC) := ⟨keepBox HZ16.out kz0, keepBox HZ16.out kz1⟩
              clear bw16
              refine hK _ _ (fun _ => hS) ?_
              clear hK
              (try simp only [Act.put, List.setIfInBounds_toArray, List.set_cons_zero, List.set_cons_succ])
              refine take0 (i := 5) (oi := _) (v := ?_) rfl (by kernel_rfl) (by kernel_rfl) (by kernel_rfl) (fun _ _ _ h => h) rfl (Or.inl ⟨by rfl, ?_⟩) (fun _ => hS) ?_
              rotate_left
              · intro w0; go_simp; with_reducible rfl
              (try simp only [Act.put, List.setIfInBounds_toArray, List.set_cons_zero, List.set_cons_succ])
              refine take0 (i := 6) (oi := _) (v := ?_) rfl (by kernel_rfl) (by kernel_rfl) (by kernel_rfl) (fun _ _ _ h => h) rfl (Or.inl ⟨by rfl, ?_⟩) (fun _ => hS) ?_
              rotate_left
              · intro w0; go_simp; with_reducible rfl
              (try simp only [Act.put, List.setIfInBounds_toArray, List.set_cons_zero, List.set_cons_succ])
              refine take0 (i := 7) (oi := _) (v := ?_) rfl (by kernel_rfl) (by kernel_rfl) (by kernel_rfl) (fun _ _ _ h => h) rfl (Or.inl ⟨by rfl, ?_⟩) (fun _ => hS) ?_
              rotate_left
              · intro w0; go_simp; with_reducible rfl
              (try simp only [Act.put, List.setIfInBounds_toArray, List.set_cons_zero, List.set_cons_succ])
              refine oneT (i := 10) (by kernel_rfl) rfl (by rfl) (fun Kq hK => ?_)
              have e0 := KA16.out.cell 0
              have e1 := KA16.out.cell 1
              have e2 := KA16.out.cell 2
              have e3 := KA16.out.cell 3
              have e4 := KA16.out.cell 4
              have f0 := KA16.out.frozen 0
              have f1 := KA16.out.frozen 1
              have f2 := KA16.out.frozen 2
              have f3 := KA16.out.frozen 3
              have f4 := KA16.out.frozen 4
              simp at e0 e1 e2 e3 e4
              have le := KA16.out.lt
              have pp := put5 KA16.out KB16.out hne HZ16.out hg15 (.int .i64 st9) (.slice hb9 hn9 hc9) (.slice S9 ns9 cs9) (.slice K9 nk9 ck9) (.int .i64 used9)
              go_simp
              clear e0 e1 e2 e3 e4 f0 f1 f2 f3 f4 le
              refine hK _ _ (noT_no (by kernel_rfl)) ?_
              clear hK
              (try simp only [Act.put, List.setIfInBounds_toArray, List.set_cons_zero, List.set_cons_succ])
              obtain ⟨v5, hv5⟩ : ∃ z : World, z = (((((v16_.setCell ⟨bA, 0, none⟩ (.int .i64 st9)).setCell ⟨bA, 1, none⟩ (.slice hb9 hn9 hc9)).setCell ⟨bA, 2, none⟩ (.slice S9 ns9 cs9)).setCell ⟨bA, 3, none⟩ (.slice K9 nk9 ck9)).setCell ⟨bA, 4, none⟩ (.int .i64 used9)) := ⟨_, rfl⟩
              obtain ⟨p1, p2, p3⟩ := pp
              rw [← hv5] at p1 p2 p3 ⊢
              have P1 := Lib.hid p1
              have P2 := Lib.hid p2
              have P3 := Lib.hid p3
              clear hv5 p1 p2 p3
              refine oneT (i := 11) (by kernel_rfl) rfl (by rfl) (fun Kq hK => ?_)
              have e0 := P2.out.cell 0
              have e1 := P2.out.cell 1
              have f0 := P2.out.frozen 0
              have f1 := P2.out.frozen 1
              simp at e0 e1
              have le := P2.out.lt
              have pq := put2_ P1.out P2.out hne P3.out hg12
              go_simp
              clear e0 e1 f0 f1 le
              refine hK _ _ (noT_no (by kernel_rfl)) ?_
              clear hK
              (try simp only [Act.put, List.setIfInBounds_toArray, List.set_cons_zero, List.set_cons_succ])
              obtain ⟨v6, hv6⟩ : ∃ z : World, z = ((v5.setCell ⟨bB, 0, none⟩ (.int .i64 0)).setCell ⟨bB, 1, none⟩ (.int .i64 0)) := ⟨_, rfl⟩
              obtain ⟨p1, p2, p3⟩ := pq
              rw [← hv6] at p1 p2 p3 ⊢
              have Q1 := Lib.hid p1
              have Q2 := Lib.hid p2
              have Q3 := Lib.hid (below_next hzd.out p3)
              clear hv6 p1 p2 p3 P1 P2 P3
              refine doneT (by kernel_rfl) ?_ _
              try go_wp2_with fail
              go_meet
              case rel => exact ⟨bA, bB, st9, hb9, hn9, hc9, S9, ns9, cs9, K9, nk9, ck9, used9, rfl, rfl, Q3, Q1, Q2, AN⟩
        · go_simp
          obtain ⟨v17_, h17⟩ : ∃ z : World, z = wz.alloc (.cells #[.int .i64 0, .slice none 0 0, .slice none 0 0, .slice none 0 0, .int .i64 0] 46) := ⟨_, rfl⟩
          have bw17 : Below wz.heap.size wz v17_ := by rw [h17]; exact below_new _ _
          have KA17 : Hid (Blk v17_ wz.heap.size 46 #[.int .i64 0, .slice none 0 0, .slice none 0 0, .slice none 0 0, .int .i64 0]) := by rw [h17]; exact Blk.new _ _ _
          rw [← h17]
          obtain ⟨bA, hbA⟩ : ∃ z : Nat, wz.heap.size = z := ⟨_, rfl⟩
          have hg17 : wz.heap.size ≤ bA := by rw [← hbA]; exact HZ0.out.size
          rw [hbA] at KA17 ⊢
          have HZ17 := Lib.hid (below_next HZ0.out bw17)
          have hS : v17_.cell? ⟨b14, 0, none⟩ = some (.int .i64 V) ∧ v17_.cell? ⟨b14, 1, none⟩ = some (.slice C nC cC) := ⟨keepBox HZ17.out kz0, keepBox HZ17.out kz1⟩
          clear h17 hbA
          clear bw17
          refine hK _ _ (fun _ => hS) ?_
          clear hK
          (try simp only [Act.put, List.setIfInBounds_toArray, List.set_cons_zero, List.set_cons_succ])
          refine twoT (i := 3) (j := 9) (by kernel_rfl) rfl (by rfl) rfl (by rfl) (fun Kq hK => ?_) (fun Kq hK => ?_)
          · go_simp
            refine (optionsOf_any o v17_ HOP.out).mono ?_
            rintro e v18_ ⟨so, ro, ko, po, rfl, hs1, hs2, hs3, hs4, bw18⟩
            have KA18 := Lib.hid (KA17.out.keep bw18)
            have HZ18 := Lib.hid (below_next HZ17.out bw18)
            have hS : v18_.cell? ⟨b14, 0, none⟩ = some (.int .i64 V) ∧ v18_.cell? ⟨b14, 1, none⟩ = some (.slice C nC cC) := ⟨keepBox HZ18.out kz0, keepBox HZ18.out kz1⟩
            clear bw18
            refine hK _ _ (fun _ => hS) ?_
            clear hK
            (try simp only [Act.put, List.setIfInBounds_toArray, List.set_cons_zero, List.set_cons_succ])
            refine twoT (i := 4) (j := 9) (by kernel_rfl) rfl (by rfl) rfl (by rfl) (fun Kq hK => ?_) (fun Kq hK => ?_)
            · go_simp
              have hlw := HZ18.out.size
              refine (cdcl_any C Q nC cC 4 dq cl.2 (asH bs 4) V v18_ (HCz.out.grid.keep HZ18.out) HNN.out (fun a ha => Nat.lt_of_lt_of_le (HLL.out a ha) hlw) (HQI.out.keep HZ18.out) HBES.out so ro ko po hs1 hs2 hs3 hs4 2000 (Nat.le_refl _) (core_ok _)).mono ?_
              rintro e v19_ ⟨st9, hb9, hn9, hc9, S9, ns9, cs9, K9, nk9, ck9, used9, rfl, bw19, ha9⟩
              have AN : Hid ((st9 = 1 ∧ iv = true) ∨ (st9 = 2 ∧ iv = false) ∨ st9 = 3) := by rw [← hV.out] at ha9; have h9 := heaps_answ hbl HTU.out (by rw [tsH_len]; omega) pv hcl.out ha9; rw [hiv.out] at h9; exact h9
              clear ha9 hlw
              have KA19 := Lib.hid (KA18.out.keep bw19)
              have HZ19 := Lib.hid (below_next HZ18.out bw19)
              have hS : v19_.cell? ⟨b14, 0, none⟩ = some (.int .i64 V) ∧ v19_.cell? ⟨b14, 1, none⟩ = some (.slice C nC cC) := ⟨keepBox HZ19.out kz0, keepBox HZ19.out kz1⟩
              clear bw19
              refine hK _ _ (fun _ => hS) ?_
              clear hK
              (try simp only [Act.put, List.setIfInBounds_toArray, List.set_cons_zero, List.set_cons_succ])
              refine take0 (i := 5) (oi := _) (v := ?_) rfl (by kernel_rfl) (by kernel_rfl) (by kernel_rfl) (fun _ _ _ h => h) rfl (Or.inl ⟨by rfl, ?_⟩) (fun _ => hS) ?_
              rotate_left
              · intro w0; go_simp; with_reducible rfl
              (try simp only [Act.put, List.setIfInBounds_toArray, List.set_cons_zero, List.set_cons_succ])
              refine take0 (i := 6) (oi := _) (v := ?_) rfl (by kernel_rfl) (by kernel_rfl) (by kernel_rfl) (fun _ _ _ h => h) rfl (Or.inl ⟨by rfl, ?_⟩) (fun _ => hS) ?_
              rotate_left
              · intro w0; go_simp; with_reducible rfl
              (try simp only [Act.put, List.setIfInBounds_toArray, List.set_cons_zero, List.set_cons_succ])
              refine take0 (i := 7) (oi := _) (v := ?_) rfl (by kernel_rfl) (by kernel_rfl) (by kernel_rfl) (fun _ _ _ h => h) rfl (Or.inl ⟨by rfl, ?_⟩) (fun _ => hS) ?_
              rotate_left
              · intro w0; go_simp; with_reducible rfl
              (try simp only [Act.put, List.setIfInBounds_toArray, List.set_cons_zero, List.set_cons_succ])
              refine oneT (i := 9) (by kernel_rfl) rfl (by rfl) (fun Kq hK => ?_)
              go_simp
              obtain ⟨v20_, h20⟩ : ∃ z : World, z = v19_.alloc (.cells #[.int .i64 0, .int .i64 0] 28) := ⟨_, rfl⟩
              have bw20 : Below v19_.heap.size v19_ v20_ := by rw [h20]; exact below_new _ _
              have KB20 : Hid (Blk v20_ v19_.heap.size 28 #[.int .i64 0, .int .i64 0]) := by rw [h20]; exact Blk.new _ _ _
              rw [← h20]
              obtain ⟨bB, hbB⟩ : ∃ z : Nat, v19_.heap.size = z := ⟨_, rfl⟩
              have hg20 : wz.heap.size ≤ bB := by rw [← hbB]; exact HZ19.out.size
              rw [hbB] at KB20 ⊢
              have hne : bA ≠ bB := by have := KA19.out.lt; omega
              have KA20 := Lib.hid (KA19.out.keep bw20)
              have HZ20 := Lib.hid (below_next HZ19.out bw20)
              have hS : v20_.cell? ⟨b14, 0, none⟩ = some (.int .i64 V) ∧ v20_.cell? ⟨b14, 1, none⟩ = some (.slice C nC cC) := ⟨keepBox HZ20.out kz0, keepBox HZ20.out kz1⟩
              clear h20 hbB
              clear bw20
              refine hK _ _ (fun _ => hS) ?_
              clear hK
              (try simp only [Act.put, List.setIfInBounds_toArray, List.set_cons_zero, List.set_cons_succ])
              refine oneT (i := 10) (by kernel_rfl) rfl (by rfl) (fun Kq hK => ?_)
              have e0 := KA20.out.cell 0
              have e1 := KA20.out.cell 1
              have e2 := KA20.out.cell 2
              have e3 := KA20.out.cell 3
              have e4 := KA20.out.cell 4
              have f0 := KA20.out.frozen 0
              have f1 := KA20.out.frozen 1
              have f2 := KA20.out.frozen 2
              have f3 := KA20.out.frozen 3
              have f4 := KA20.out.frozen 4
              simp at e0 e1 e2 e3 e4
              have le := KA20.out.lt
              have pp := put5 KA20.out KB20.out hne HZ20.out hg17 (.int .i64 st9) (.slice hb9 hn9 hc9) (.slice S9 ns9 cs9) (.slice K9 nk9 ck9) (.int .i64 used9)
              go_simp
              clear e0 e1 e2 e3 e4 f0 f1 f2 f3 f4 le
              refine hK _ _ (noT_no (by kernel_rfl)) ?_
              clear hK
              (try simp only [Act.put, List.setIfInBounds_toArray, List.set_cons_zero, List.set_cons_succ])
              obtain ⟨v5, hv5⟩ : ∃ z : World, z = (((((v20_.setCell ⟨bA, 0, none⟩ (.int .i64 st9)).setCell ⟨bA, 1, none⟩ (.slice hb9 hn9 hc9)).setCell ⟨bA, 2, none⟩ (.slice S9 ns9 cs9)).setCell ⟨bA, 3, none⟩ (.slice K9 nk9 ck9)).setCell ⟨bA, 4, none⟩ (.int .i64 used9)) := ⟨_, rfl⟩
              obtain ⟨p1, p2, p3⟩ := pp
              rw [← hv5] at p1 p2 p3 ⊢
              have P1 := Lib.hid p1
              have P2 := Lib.hid p2
              have P3 := Lib.hid p3
              clear hv5 p1 p2 p3
              refine oneT (i := 11) (by kernel_rfl) rfl (by rfl) (fun Kq hK => ?_)
              have e0 := P2.out.cell 0
              have e1 := P2.out.cell 1
              have f0 := P2.out.frozen 0
              have f1 := P2.out.frozen 1
              simp at e0 e1
              have le := P2.out.lt
              have pq := put2_ P1.out P2.out hne P3.out hg20
              go_simp
              clear e0 e1 f0 f1 le
              refine hK _ _ (noT_no (by kernel_rfl)) ?_
              clear hK
              (try simp only [Act.put, List.setIfInBounds_toArray, List.set_cons_zero, List.set_cons_succ])
              obtain ⟨v6, hv6⟩ : ∃ z : World, z = ((v5.setCell ⟨bB, 0, none⟩ (.int .i64 0)).setCell ⟨bB, 1, none⟩ (.int .i64 0)) := ⟨_, rfl⟩
              obtain ⟨p1, p2, p3⟩ := pq
              rw [← hv6] at p1 p2 p3 ⊢
              have Q1 := Lib.hid p1
              have Q2 := Lib.hid p2
              have Q3 := Lib.hid (below_next hzd.out p3)
              clear hv6 p1 p2 p3 P1 P2 P3
              refine doneT (by kernel_rfl) ?_ _
              try go_wp2_with fail
              go_meet
              case rel => exact ⟨bA, bB, st9, hb9, hn9, hc9, S9, ns9, cs9, K9, nk9, ck9, used9, rfl, rfl, Q3, Q1, Q2, AN⟩
            · go_simp
              obtain ⟨v21_, h21⟩ : ∃ z : World, z = v18_.alloc (.cells #[.int .i64 0, .int .i64 0] 28) := ⟨_, rfl⟩
              have bw21 : Below v18_.heap.size v18_ v21_ := by rw [h21]; exact below_new _ _
              have KB21 : Hid (Blk v21_ v18_.heap.size 28 #[.int .i64 0, .int .i64 0]) := by rw [h21]; exact Blk.new _ _ _
              rw [← h21]
              obtain ⟨bB, hbB⟩ : ∃ z : Nat, v18_.heap.size = z := ⟨_, rfl⟩
              have hg21 : wz.heap.size ≤ bB := by rw [← hbB]; exact HZ18.out.size
              rw [hbB] at KB21 ⊢
              have hne : bA ≠ bB := by have := KA18.out.lt; omega
              have KA21 := Lib.hid (KA18.out.keep bw21)
              have HZ21 := Lib.hid (below_next HZ18.out bw21)
              have hS : v21_.cell? ⟨b14, 0, none⟩ = some (.int .i64 V) ∧ v21_.cell? ⟨b14, 1, none⟩ = some (.slice C nC cC) := ⟨keepBox HZ21.out kz0, keepBox HZ21.out kz1⟩
              clear h21 hbB
              clear bw21
              refine hK _ _ (fun _ => hS) ?_
              clear hK
              (try simp only [Act.put, List.setIfInBounds_toArray, List.set_cons_zero, List.set_cons_succ])
              refine oneT (i := 4) (by kernel_rfl) rfl (by rfl) (fun Kq hK => ?_)
              go_simp
              have hlw := HZ21.out.size
              refine (cdcl_any C Q nC cC 4 dq cl.2 (asH bs 4) V v21_ (HCz.out.grid.keep HZ21.out) HNN.out (fun a ha => Nat.lt_of_lt_of_le (HLL.out a ha) hlw) (HQI.out.keep HZ21.out) HBES.out so ro ko po hs1 hs2 hs3 hs4 2000 (Nat.le_refl _) (core_ok _)).mono ?_
              rintro e v22_ ⟨st9, hb9, hn9, hc9, S9, ns9, cs9, K9, nk9, ck9, used9, rfl, bw22, ha9⟩
              have AN : Hid ((st9 = 1 ∧ iv = true) ∨ (st9 = 2 ∧ iv = false) ∨ st9 = 3) := by rw [← hV.out] at ha9; have h9 := heaps_answ hbl HTU.out (by rw [tsH_len]; omega) pv hcl.out ha9; rw [hiv.out] at h9; exact h9
              clear ha9 hlw
              have KA22 := Lib.hid (KA21.out.keep bw22)
              have KB22 := Lib.hid (KB21.out.keep bw22)
              have HZ22 := Lib.hid (below_next HZ21.out bw22)
              have hS : v22_.cell? ⟨b14, 0, none⟩ = some (.int .i64 V) ∧ v22_.cell? ⟨b14, 1, none⟩ = some (.slice C nC cC) := ⟨keepBox HZ22.out kz0, keepBox HZ22.out kz1⟩
              clear bw22
              refine hK _ _ (fun _ => hS) ?_
              clear hK
              (try simp only [Act.put, List.setIfInBounds_toArray, List.set_cons_zero, List.set_cons_succ])
              refine take0 (i := 5) (oi := _) (v := ?_) rfl (by kernel_rfl) (by kernel_rfl) (by kernel_rfl) (fun _ _ _ h => h) rfl (Or.inl ⟨by rfl, ?_⟩) (fun _ => hS) ?_
              rotate_left
              · intro w0; go_simp; with_reducible rfl
              (try simp only [Act.put, List.setIfInBounds_toArray, List.set_cons_zero, List.set_cons_succ])
              refine take0 (i := 6) (oi := _) (v := ?_) rfl (by kernel_rfl) (by kernel_rfl) (by kernel_rfl) (fun _ _ _ h => h) rfl (Or.inl ⟨by rfl, ?_⟩) (fun _ => hS) ?_
              rotate_left
              · intro w0; go_simp; with_reducible rfl
              (try simp only [Act.put, List.setIfInBounds_toArray, List.set_cons_zero, List.set_cons_succ])
              refine take0 (i := 7) (oi := _) (v := ?_) rfl (by kernel_rfl) (by kernel_rfl) (by kernel_rfl) (fun _ _ _ h => h) rfl (Or.inl ⟨by rfl, ?_⟩) (fun _ => hS) ?_
              rotate_left
              · intro w0; go_simp; with_reducible rfl
              (try simp only [Act.put, List.setIfInBounds_toArray, List.set_cons_zero, List.set_cons_succ])
              refine oneT (i := 10) (by kernel_rfl) rfl (by rfl) (fun Kq hK => ?_)
              have e0 := KA22.out.cell 0
              have e1 := KA22.out.cell 1
              have e2 := KA22.out.cell 2
              have e3 := KA22.out.cell 3
              have e4 := KA22.out.cell 4
              have f0 := KA22.out.frozen 0
              have f1 := KA22.out.frozen 1
              have f2 := KA22.out.frozen 2
              have f3 := KA22.out.frozen 3
              have f4 := KA22.out.frozen 4
              simp at e0 e1 e2 e3 e4
              have le := KA22.out.lt
              have pp := put5 KA22.out KB22.out hne HZ22.out hg17 (.int .i64 st9) (.slice hb9 hn9 hc9) (.slice S9 ns9 cs9) (.slice K9 nk9 ck9) (.int .i64 used9)
              go_simp
              clear e0 e1 e2 e3 e4 f0 f1 f2 f3 f4 le
              refine hK _ _ (noT_no (by kernel_rfl)) ?_
              clear hK
              (try simp only [Act.put, List.setIfInBounds_toArray, List.set_cons_zero, List.set_cons_succ])
              obtain ⟨v5, hv5⟩ : ∃ z : World, z = (((((v22_.setCell ⟨bA, 0, none⟩ (.int .i64 st9)).setCell ⟨bA, 1, none⟩ (.slice hb9 hn9 hc9)).setCell ⟨bA, 2, none⟩ (.slice S9 ns9 cs9)).setCell ⟨bA, 3, none⟩ (.slice K9 nk9 ck9)).setCell ⟨bA, 4, none⟩ (.int .i64 used9)) := ⟨_, rfl⟩
              obtain ⟨p1, p2, p3⟩ := pp
              rw [← hv5] at p1 p2 p3 ⊢
              have P1 := Lib.hid p1
              have P2 := Lib.hid p2
              have P3 := Lib.hid p3
              clear hv5 p1 p2 p3
              refine oneT (i := 11) (by kernel_rfl) rfl (by rfl) (fun Kq hK => ?_)
              have e0 := P2.out.cell 0
              have e1 := P2.out.cell 1
              have f0 := P2.out.frozen 0
              have f1 := P2.out.frozen 1
              simp at e0 e1
              have le := P2.out.lt
              have pq := put2_ P1.out P2.out hne P3.out hg21
              go_simp
              clear e0 e1 f0 f1 le
              refine hK _ _ (noT_no (by kernel_rfl)) ?_
              clear hK
              (try simp only [Act.put, List.setIfInBounds_toArray, List.set_cons_zero, List.set_cons_succ])
              obtain ⟨v6, hv6⟩ : ∃ z : World, z = ((v5.setCell ⟨bB, 0, none⟩ (.int .i64 0)).setCell ⟨bB, 1, none⟩ (.int .i64 0)) := ⟨_, rfl⟩
              obtain ⟨p1, p2, p3⟩ := pq
              rw [← hv6] at p1 p2 p3 ⊢
              have Q1 := Lib.hid p1
              have Q2 := Lib.hid p2
              have Q3 := Lib.hid (below_next hzd.out p3)
              clear hv6 p1 p2 p3 P1 P2 P3
              refine doneT (by kernel_rfl) ?_ _
              try go_wp2_with fail
              go_meet
              case rel => exact ⟨bA, bB, st9, hb9, hn9, hc9, S9, ns9, cs9, K9, nk9, ck9, used9, rfl, rfl, Q3, Q1, Q2, AN⟩
          · go_simp
            obtain ⟨v23_, h23⟩ : ∃ z : World, z = v17_.alloc (.cells #[.int .i64 0, .int .i64 0] 28) := ⟨_, rfl⟩
            have bw23 : Below v17_.heap.size v17_ v23_ := by rw [h23]; exact below_new _ _
            have KB23 : Hid (Blk v23_ v17_.heap.size 28 #[.int .i64 0, .int .i64 0]) := by rw [h23]; exact Blk.new _ _ _
            rw [← h23]
            obtain ⟨bB, hbB⟩ : ∃ z : Nat, v17_.heap.size = z := ⟨_, rfl⟩
            have hg23 : wz.heap.size ≤ bB := by rw [← hbB]; exact HZ17.out.size
            rw [hbB] at KB23 ⊢
            have hne : bA ≠ bB := by have := KA17.out.lt; omega
            have KA23 := Lib.hid (KA17.out.keep bw23)
            have HZ23 := Lib.hid (below_next HZ17.out bw23)
            have hS : v23_.cell? ⟨b14, 0, none⟩ = some (.int .i64 V) ∧ v23_.cell? ⟨b14, 1, none⟩ = some (.slice C nC cC) := ⟨keepBox HZ23.out kz0, keepBox HZ23.out kz1⟩
            clear h23 hbB
            clear bw23
            refine hK _ _ (fun _ => hS) ?_
            clear hK
            (try simp only [Act.put, List.setIfInBounds_toArray, List.set_cons_zero, List.set_cons_succ])
            refine oneT (i := 3) (by kernel_rfl) rfl (by rfl) (fun Kq hK => ?_)
            go_simp
            refine (optionsOf_any o v23_ HOP.out).mono ?_
            rintro e v24_ ⟨so, ro, ko, po, rfl, hs1, hs2, hs3, hs4, bw24⟩
            have KA24 := Lib.hid (KA23.out.keep bw24)
            have KB24 := Lib.hid (KB23.out.keep bw24)
            have HZ24 := Lib.hid (below_next HZ23.out bw24)
            have hS : v24_.cell? ⟨b14, 0, none⟩ = some (.int .i64 V) ∧ v24_.cell? ⟨b14, 1, none⟩ = some (.slice C nC cC) := ⟨keepBox HZ24.out kz0, keepBox HZ24.out kz1⟩
            clear bw24
            refine hK _ _ (fun _ => hS) ?_
            clear hK
            (try simp only [Act.put, List.setIfInBounds_toArray, List.set_cons_zero, List.set_cons_succ])
            refine oneT (i := 4) (by kernel_rfl) rfl (by rfl) (fun Kq hK => ?_)
            go_simp
            have hlw := HZ24.out.size
            refine (cdcl_any C Q nC cC 4 dq cl.2 (asH bs 4) V v24_ (HCz.out.grid.keep HZ24.out) HNN.out (fun a ha => Nat.lt_of_lt_of_le (HLL.out a ha) hlw) (HQI.out.keep HZ24.out) HBES.out so ro ko po hs1 hs2 hs3 hs4 2000 (Nat.le_refl _) (core_ok _)).mono ?_
            rintro e v25_ ⟨st9, hb9, hn9, hc9, S9, ns9, cs9, K9, nk9, ck9, used9, rfl, bw25, ha9⟩
            have AN : Hid ((st9 = 1 ∧ iv = true) ∨ (st9 = 2 ∧ iv = false) ∨ st9 = 3) := by rw [← hV.out] at ha9; have h9 := heaps_answ hbl HTU.out (by rw [tsH_len]; omega) pv hcl.out ha9; rw [hiv.out] at h9; exact h9
            clear ha9 hlw
            have KA25 := Lib.hid (KA24.out.keep bw25)
            have KB25 := Lib.hid (KB24.out.keep bw25)
            have HZ25 := Lib.hid (below_next HZ24.out bw25)
            have hS : v25_.cell? ⟨b14, 0, none⟩ = some (.int .i64 V) ∧ v25_.cell? ⟨b14, 1, none⟩ = some (.slice C nC cC) := ⟨keepBox HZ25.out kz0, keepBox HZ25.out kz1⟩
            clear bw25
            refine hK _ _ (fun _ => hS) ?_
            clear hK
            (try simp only [Act.put, List.setIfInBounds_toArray, List.set_cons_zero, List.set_cons_succ])
            refine take0 (i := 5) (oi := _) (v := ?_) rfl (by kernel_rfl) (by kernel_rfl) (by kernel_rfl) (fun _ _ _ h => h) rfl (Or.inl ⟨by rfl, ?_⟩) (fun _ => hS) ?_
            rotate_left
            · intro w0; go_simp; with_reducible rfl
            (try simp only [Act.put, List.setIfInBounds_toArray, List.set_cons_zero, List.set_cons_succ])
            refine take0 (i := 6) (oi := _) (v := ?_) rfl (by kernel_rfl) (by kernel_rfl) (by kernel_rfl) (fun _ _ _ h => h) rfl (Or.inl ⟨by rfl, ?_⟩) (fun _ => hS) ?_
            rotate_left
            · intro w0; go_simp; with_reducible rfl
            (try simp only [Act.put, List.setIfInBounds_toArray, List.set_cons_zero, List.set_cons_succ])
            refine take0 (i := 7) (oi := _) (v := ?_) rfl (by kernel_rfl) (by kernel_rfl) (by kernel_rfl) (fun _ _ _ h => h) rfl (Or.inl ⟨by rfl, ?_⟩) (fun _ => hS) ?_
            rotate_left
            · intro w0; go_simp; with_reducible rfl
            (try simp only [Act.put, List.setIfInBounds_toArray, List.set_cons_zero, List.set_cons_succ])
            refine oneT (i := 10) (by kernel_rfl) rfl (by rfl) (fun Kq hK => ?_)
            have e0 := KA25.out.cell 0
            have e1 := KA25.out.cell 1
            have e2 := KA25.out.cell 2
            have e3 := KA25.out.cell 3
            have e4 := KA25.out.cell 4
            have f0 := KA25.out.frozen 0
            have f1 := KA25.out.frozen 1
            have f2 := KA25.out.frozen 2
            have f3 := KA25.out.frozen 3
            have f4 := KA25.out.frozen 4
            simp at e0 e1 e2 e3 e4
            have le := KA25.out.lt
            have pp := put5 KA25.out KB25.out hne HZ25.out hg17 (.int .i64 st9) (.slice hb9 hn9 hc9) (.slice S9 ns9 cs9) (.slice K9 nk9 ck9) (.int .i64 used9)
            go_simp
            clear e0 e1 e2 e3 e4 f0 f1 f2 f3 f4 le
            refine hK _ _ (noT_no (by kernel_rfl)) ?_
            clear hK
            (try simp only [Act.put, List.setIfInBounds_toArray, List.set_cons_zero, List.set_cons_succ])
            obtain ⟨v5, hv5⟩ : ∃ z : World, z = (((((v25_.setCell ⟨bA, 0, none⟩ (.int .i64 st9)).setCell ⟨bA, 1, none⟩ (.slice hb9 hn9 hc9)).setCell ⟨bA, 2, none⟩ (.slice S9 ns9 cs9)).setCell ⟨bA, 3, none⟩ (.slice K9 nk9 ck9)).setCell ⟨bA, 4, none⟩ (.int .i64 used9)) := ⟨_, rfl⟩
            obtain ⟨p1, p2, p3⟩ := pp
            rw [← hv5] at p1 p2 p3 ⊢
            have P1 := Lib.hid p1
            have P2 := Lib.hid p2
            have P3 := Lib.hid p3
            clear hv5 p1 p2 p3
            refine oneT (i := 11) (by kernel_rfl) rfl (by rfl) (fun Kq hK => ?_)
            have e0 := P2.out.cell 0
            have e1 := P2.out.cell 1
            have f0 := P2.out.frozen 0
            have f1 := P2.out.frozen 1
            simp at e0 e1
            have le := P2.out.lt
            have pq := put2_ P1.out P2.out hne P3.out hg23
            go_simp
            clear e0 e1 f0 f1 le
            refine hK _ _ (noT_no (by kernel_rfl)) ?_
            clear hK
            (try simp only [Act.put, List.setIfInBounds_toArray, List.set_cons_zero, List.set_cons_succ])
            obtain ⟨v6, hv6⟩ : ∃ z : World, z = ((v5.setCell ⟨bB, 0, none⟩ (.int .i64 0)).setCell ⟨bB, 1, none⟩ (.int .i64 0)) := ⟨_, rfl⟩
            obtain ⟨p1, p2, p3⟩ := pq
            rw [← hv6] at p1 p2 p3 ⊢
            have Q1 := Lib.hid p1
            have Q2 := Lib.hid p2
            have Q3 := Lib.hid (below_next hzd.out p3)
            clear hv6 p1 p2 p3 P1 P2 P3
            refine doneT (by kernel_rfl) ?_ _
            try go_wp2_with fail
            go_meet
            case rel => exact ⟨bA, bB, st9, hb9, hn9, hc9, S9, ns9, cs9, K9, nk9, ck9, used9, rfl, rfl, Q3, Q1, Q2, AN⟩
        · go_simp
          obtain ⟨v26_, h26⟩ : ∃ z : World, z = wz.alloc (.cells #[.int .i64 0, .int .i64 0] 28) := ⟨_, rfl⟩
          have bw26 : Below wz.heap.size wz v26_ := by rw [h26]; exact below_new _ _
          have KB26 : Hid (Blk v26_ wz.heap.size 28 #[.int .i64 0, .int .i64 0]) := by rw [h26]; exact Blk.new _ _ _
          rw [← h26]
          obtain ⟨bB, hbB⟩ : ∃ z : Nat, wz.heap.size = z := ⟨_, rfl⟩
          have hg26 : wz.heap.size ≤ bB := by rw [← hbB]; exact HZ0.out.size
          rw [hbB] at KB26 ⊢
          have HZ26 := Lib.hid (below_next HZ0.out bw26)
          have hS : v26_.cell? ⟨b14, 0, none⟩ = some (.int .i64 V) ∧ v26_.cell? ⟨b14, 1, none⟩ = some (.slice C nC cC) := ⟨keepBox HZ26.out kz0, keepBox HZ26.out kz1⟩
          clear h26 hbB
          clear bw26
          refine hK _ _ (fun _ => hS) ?_
          clear hK
          (try simp only [Act.put, List.setIfInBounds_toArray, List.set_cons_zero, List.set_cons_succ])
          refine twoT (i := 3) (j := 8) (by kernel_rfl) rfl (by rfl) rfl (by rfl) (fun Kq hK => ?_) (fun Kq hK => ?_)
          · go_simp
            refine (optionsOf_any o v26_ HOP.out).mono ?_
            rintro e v27_ ⟨so, ro, ko, po, rfl, hs1, hs2, hs3, hs4, bw27⟩
            have KB27 := Lib.hid (KB26.out.keep bw27)
            have HZ27 := Lib.hid (below_next HZ26.out bw27)
            have hS : v27_.cell? ⟨b14, 0, none⟩ = some (.int .i64 V) ∧ v27_.cell? ⟨b14, 1, none⟩ = some (.slice C nC cC) := ⟨keepBox HZ27.out kz0, keepBox HZ27.out kz1⟩
            clear bw27
            refine hK _ _ (fun _ => hS) ?_
            clear hK
            (try simp only [Act.put, List.setIfInBounds_toArray, List.set_cons_zero, List.set_cons_succ])
            refine twoT (i := 4) (j := 8) (by kernel_rfl) rfl (by rfl) rfl (by rfl) (fun Kq hK => ?_) (fun Kq hK => ?_)
            · go_simp
              have hlw := HZ27.out.size
              refine (cdcl_any C Q nC cC 4 dq cl.2 (asH bs 4) V v27_ (HCz.out.grid.keep HZ27.out) HNN.out (fun a ha => Nat.lt_of_lt_of_le (HLL.out a ha) hlw) (HQI.out.keep HZ27.out) HBES.out so ro ko po hs1 hs2 hs3 hs4 2000 (Nat.le_refl _) (core_ok _)).mono ?_
              rintro e v28_ ⟨st9, hb9, hn9, hc9, S9, ns9, cs9, K9, nk9, ck9, used9, rfl, bw28, ha9⟩
              have AN : Hid ((st9 = 1 ∧ iv = true) ∨ (st9 = 2 ∧ iv = false) ∨ st9 = 3) := by rw [← hV.out] at ha9; have h9 := heaps_answ hbl HTU.out (by rw [tsH_len]; omega) pv hcl.out ha9; rw [hiv.out] at h9; exact h9
              clear ha9 hlw
              have KB28 := Lib.hid (KB27.out.keep bw28)
              have HZ28 := Lib.hid (below_next HZ27.out bw28)
              have hS : v28_.cell? ⟨b14, 0, none⟩ = some (.int .i64 V) ∧ v28_.cell? ⟨b14, 1, none⟩ = some (.slice C nC cC) := ⟨keepBox HZ28.out kz0, keepBox HZ28.out kz1⟩
              clear bw28
              refine hK _ _ (fun _ => hS) ?_
              clear hK
              (try simp only [Act.put, List.setIfInBounds_toArray, List.set_cons_zero, List.set_cons_succ])
              refine take0 (i := 5) (oi := _) (v := ?_) rfl (by kernel_rfl) (by kernel_rfl) (by kernel_rfl) (fun _ _ _ h => h) rfl (Or.inl ⟨by rfl, ?_⟩) (fun _ => hS) ?_
              rotate_left
              · intro w0; go_simp; with_reducible rfl
              (try simp only [Act.put, List.setIfInBounds_toArray, List.set_cons_zero, List.set_cons_succ])
              refine take0 (i := 6) (oi := _) (v := ?_) rfl (by kernel_rfl) (by kernel_rfl) (by kernel_rfl) (fun _ _ _ h => h) rfl (Or.inl ⟨by rfl, ?_⟩) (fun _ => hS) ?_
              rotate_left
              · intro w0; go_simp; with_reducible rfl
              (try simp only [Act.put, List.setIfInBounds_toArray, List.set_cons_zero, List.set_cons_succ])
              refine take0 (i := 7) (oi := _) (v := ?_) rfl (by kernel_rfl) (by kernel_rfl) (by kernel_rfl) (fun _ _ _ h => h) rfl (Or.inl ⟨by rfl, ?_⟩) (fun _ => hS) ?_
              rotate_left
              · intro w0; go_simp; with_reducible rfl
              (try simp only [Act.put, List.setIfInBounds_toArray, List.set_cons_zero, List.set_cons_succ])
              refine oneT (i := 8) (by kernel_rfl) rfl (by rfl) (fun Kq hK => ?_)
              go_simp
              obtain ⟨v29_, h29⟩ : ∃ z : World, z = v28_.alloc (.cells #[.int .i64 0, .slice none 0 0, .slice none 0 0, .slice none 0 0, .int .i64 0] 46) := ⟨_, rfl⟩
              have bw29 : Below v28_.heap.size v28_ v29_ := by rw [h29]; exact below_new _ _
              have KA29 : Hid (Blk v29_ v28_.heap.size 46 #[.int .i64 0, .slice none 0 0, .slice none 0 0, .slice none 0 0, .int .i64 0]) := by rw [h29]; exact Blk.new _ _ _
              rw [← h29]
              obtain ⟨bA, hbA⟩ : ∃ z : Nat, v28_.heap.size = z := ⟨_, rfl⟩
              have hg29 : wz.heap.size ≤ bA := by rw [← hbA]; exact HZ28.out.size
              rw [hbA] at KA29 ⊢
              have hne : bA ≠ bB := by have := KB28.out.lt; omega
              have KB29 := Lib.hid (KB28.out.keep bw29)
              have HZ29 := Lib.hid (below_next HZ28.out bw29)
              have hS : v29_.cell? ⟨b14, 0, none⟩ = some (.int .i64 V) ∧ v29_.cell? ⟨b14, 1, none⟩ = some (.slice C nC cC) := ⟨keepBox HZ29.out kz0, keepBox HZ29.out kz1⟩
              clear h29 hbA
              clear bw29
              refine hK _ _ (fun _ => hS) ?_
              clear hK
              (try simp only [Act.put, List.setIfInBounds_toArray, List.set_cons_zero, List.set_cons_succ])
              refine oneT (i := 10) (by kernel_rfl) rfl (by rfl) (fun Kq hK => ?_)
              have e0 := KA29.out.cell 0
              have e1 := KA29.out.cell 1
              have e2 := KA29.out.cell 2
              have e3 := KA29.out.cell 3
              have e4 := KA29.out.cell 4
              have f0 := KA29.out.frozen 0
              have f1 := KA29.out.frozen 1
              have f2 := KA29.out.frozen 2
              have f3 := KA29.out.frozen 3
              have f4 := KA29.out.frozen 4
              simp at e0 e1 e2 e3 e4
              have le := KA29.out.lt
              have pp := put5 KA29.out KB29.out hne HZ29.out hg29 (.int .i64 st9) (.slice hb9 hn9 hc9) (.slice S9 ns9 cs9) (.slice K9 nk9 ck9) (.int .i64 used9)
              go_simp
              clear e0 e1 e2 e3 e4 f0 f1 f2 f3 f4 le
              refine hK _ _ (noT_no (by kernel_rfl)) ?_
              clear hK
              (try simp only [Act.put, List.setIfInBounds_toArray, List.set_cons_zero, List.set_cons_succ])
              obtain ⟨v5, hv5⟩ : ∃ z : World, z = (((((v29_.setCell ⟨bA, 0, none⟩ (.int .i64 st9)).setCell ⟨bA, 1, none⟩ (.slice hb9 hn9 hc9)).setCell ⟨bA, 2, none⟩ (.slice S9 ns9 cs9)).setCell ⟨bA, 3, none⟩ (.slice K9 nk9 ck9)).setCell ⟨bA, 4, none⟩ (.int .i64 used9)) := ⟨_, rfl⟩
              obtain ⟨p1, p2, p3⟩ := pp
              rw [← hv5] at p1 p2 p3 ⊢
              have P1 := Lib.hid p1
              have P2 := Lib.hid p2
              have P3 := Lib.hid p3
              clear hv5 p1 p2 p3
              refine oneT (i := 11) (by kernel_rfl) rfl (by rfl) (fun Kq hK => ?_)
              have e0 := P2.out.cell 0
              have e1 := P2.out.cell 1
              have f0 := P2.out.frozen 0
              have f1 := P2.out.frozen 1
              simp at e0 e1
              have le := P2.out.lt
              have pq := put2_ P1.out P2.out hne P3.out hg26
              go_simp
              clear e0 e1 f0 f1 le
              refine hK _ _ (noT_no (by kernel_rfl)) ?_
              clear hK
              (try simp only [Act.put, List.setIfInBounds_toArray, List.set_cons_zero, List.set_cons_succ])
              obtain ⟨v6, hv6⟩ : ∃ z : World, z = ((v5.setCell ⟨bB, 0, none⟩ (.int .i64 0)).setCell ⟨bB, 1, none⟩ (.int .i64 0)) := ⟨_, rfl⟩
              obtain ⟨p1, p2, p3⟩ := pq
              rw [← hv6] at p1 p2 p3 ⊢
              have Q1 := Lib.hid p1
              have Q2 := Lib.hid p2
              have Q3 := Lib.hid (below_next hzd.out p3)
              clear hv6 p1 p2 p3 P1 P2 P3
              refine doneT (by kernel_rfl) ?_ _
              try go_wp2_with fail
              go_meet
              case rel => exact ⟨bA, bB, st9, hb9, hn9, hc9, S9, ns9, cs9, K9, nk9, ck9, used9, rfl, rfl, Q3, Q1, Q2, AN⟩
            · go_simp
              obtain ⟨v30_, h30⟩ : ∃ z : World, z = v27_.alloc (.cells #[.int .i64 0, .slice none 0 0, .slice none 0 0, .slice none 0 0, .int .i64 0] 46) := ⟨_, rfl⟩
              have bw30 : Below v27_.heap.size v27_ v30_ := by rw [h30]; exact below_new _ _
              have KA30 : Hid (Blk v30_ v27_.heap.size 46 #[.int .i64 0, .slice none 0 0, .slice none 0 0, .slice none 0 0, .int .i64 0]) := by rw [h30]; exact Blk.new _ _ _
              rw [← h30]
              obtain ⟨bA, hbA⟩ : ∃ z : Nat, v27_.heap.size = z := ⟨_, rfl⟩
              have hg30 : wz.heap.size ≤ bA := by rw [← hbA]; exact HZ27.out.size
              rw [hbA] at KA30 ⊢
              have hne : bA ≠ bB := by have := KB27.out.lt; omega
              have KB30 := Lib.hid (KB27.out.keep bw30)
              have HZ30 := Lib.hid (below_next HZ27.out bw30)
              have hS : v30_.cell? ⟨b14, 0, none⟩ = some (.int .i64 V) ∧ v30_.cell? ⟨b14, 1, none⟩ = some (.slice C nC cC) := ⟨keepBox HZ30.out kz0, keepBox HZ30.out kz1⟩
              clear h30 hbA
              clear bw30
              refine hK _ _ (fun _ => hS) ?_
              clear hK
              (try simp only [Act.put, List.setIfInBounds_toArray, List.set_cons_zero, List.set_cons_succ])
              refine oneT (i := 4) (by kernel_rfl) rfl (by rfl) (fun Kq hK => ?_)
              go_simp
              have hlw := HZ30.out.size
              refine (cdcl_any C Q nC cC 4 dq cl.2 (asH bs 4) V v30_ (HCz.out.grid.keep HZ30.out) HNN.out (fun a ha => Nat.lt_of_lt_of_le (HLL.out a ha) hlw) (HQI.out.keep HZ30.out) HBES.out so ro ko po hs1 hs2 hs3 hs4 2000 (Nat.le_refl _) (core_ok _)).mono ?_
              rintro e v31_ ⟨st9, hb9, hn9, hc9, S9, ns9, cs9, K9, nk9, ck9, used9, rfl, bw31, ha9⟩
              have AN : Hid ((st9 = 1 ∧ iv = true) ∨ (st9 = 2 ∧ iv = false) ∨ st9 = 3) := by rw [← hV.out] at ha9; have h9 := heaps_answ hbl HTU.out (by rw [tsH_len]; omega) pv hcl.out ha9; rw [hiv.out] at h9; exact h9
              clear ha9 hlw
              have KA31 := Lib.hid (KA30.out.keep bw31)
              have KB31 := Lib.hid (KB30.out.keep bw31)
              have HZ31 := Lib.hid (below_next HZ30.out bw31)
              have hS : v31_.cell? ⟨b14, 0, none⟩ = some (.int .i64 V) ∧ v31_.cell? ⟨b14, 1, none⟩ = some (.slice C nC cC) := ⟨keepBox HZ31.out kz0, keepBox HZ31.out kz1⟩
              clear bw31
              refine hK _ _ (fun _ => hS) ?_
              clear hK
              (try simp only [Act.put, List.setIfInBounds_toArray, List.set_cons_zero, List.set_cons_succ])
              refine take0 (i := 5) (oi := _) (v := ?_) rfl (by kernel_rfl) (by kernel_rfl) (by kernel_rfl) (fun _ _ _ h => h) rfl (Or.inl ⟨by rfl, ?_⟩) (fun _ => hS) ?_
              rotate_left
              · intro w0; go_simp; with_reducible rfl
              (try simp only [Act.put, List.setIfInBounds_toArray, List.set_cons_zero, List.set_cons_succ])
              refine take0 (i := 6) (oi := _) (v := ?_) rfl (by kernel_rfl) (by kernel_rfl) (by kernel_rfl) (fun _ _ _ h => h) rfl (Or.inl ⟨by rfl, ?_⟩) (fun _ => hS) ?_
              rotate_left
              · intro w0; go_simp; with_reducible rfl
              (try simp only [Act.put, List.setIfInBounds_toArray, List.set_cons_zero, List.set_cons_succ])
              refine take0 (i := 7) (oi := _) (v := ?_) rfl (by kernel_rfl) (by kernel_rfl) (by kernel_rfl) (fun _ _ _ h => h) rfl (Or.inl ⟨by rfl, ?_⟩) (fun _ => hS) ?_
              rotate_left
              · intro w0; go_simp; with_reducible rfl
              (try simp only [Act.put, List.setIfInBounds_toArray, List.set_cons_zero, List.set_cons_succ])
              refine oneT (i := 10) (by kernel_rfl) rfl (by rfl) (fun Kq hK => ?_)
              have e0 := KA31.out.cell 0
              have e1 := KA31.out.cell 1
              have e2 := KA31.out.cell 2
              have e3 := KA31.out.cell 3
              have e4 := KA31.out.cell 4
              have f0 := KA31.out.frozen 0
              have f1 := KA31.out.frozen 1
              have f2 := KA31.out.frozen 2
              have f3 := KA31.out.frozen 3
              have f4 := KA31.out.frozen 4
              simp at e0 e1 e2 e3 e4
              have le := KA31.out.lt
              have pp := put5 KA31.out KB31.out hne HZ31.out hg30 (.int .i64 st9) (.slice hb9 hn9 hc9) (.slice S9 ns9 cs9) (.slice K9 nk9 ck9) (.int .i64 used9)
              go_simp
              clear e0 e1 e2 e3 e4 f0 f1 f2 f3 f4 le
              refine hK _ _ (noT_no (by kernel_rfl)) ?_
              clear hK
              (try simp only [Act.put, List.setIfInBounds_toArray, List.set_cons_zero, List.set_cons_succ])
              obtain ⟨v5, hv5⟩ : ∃ z : World, z = (((((v31_.setCell ⟨bA, 0, none⟩ (.int .i64 st9)).setCell ⟨bA, 1, none⟩ (.slice hb9 hn9 hc9)).setCell ⟨bA, 2, none⟩ (.slice S9 ns9 cs9)).setCell ⟨bA, 3, none⟩ (.slice K9 nk9 ck9)).setCell ⟨bA, 4, none⟩ (.int .i64 used9)) := ⟨_, rfl⟩
              obtain ⟨p1, p2, p3⟩ := pp
              rw [← hv5] at p1 p2 p3 ⊢
              have P1 := Lib.hid p1
              have P2 := Lib.hid p2
              have P3 := Lib.hid p3
              clear hv5 p1 p2 p3
              refine oneT (i := 11) (by kernel_rfl) rfl (by rfl) (fun Kq hK => ?_)
              have e0 := P2.out.cell 0
              have e1 := P2.out.cell 1
              have f0 := P2.out.frozen 0
              have f1 := P2.out.frozen 1
              simp at e0 e1
              have le := P2.out.lt
              have pq := put2_ P1.out P2.out hne P3.out hg26
              go_simp
              clear e0 e1 f0 f1 le
              refine hK _ _ (noT_no (by kernel_rfl)) ?_
              clear hK
              (try simp only [Act.put, List.setIfInBounds_toArray, List.set_cons_zero, List.set_cons_succ])
              obtain ⟨v6, hv6⟩ : ∃ z : World, z = ((v5.setCell ⟨bB, 0, none⟩ (.int .i64 0)).setCell ⟨bB, 1, none⟩ (.int .i64 0)) := ⟨_, rfl⟩
              obtain ⟨p1, p2, p3⟩ := pq
              rw [← hv6] at p1 p2 p3 ⊢
              have Q1 := Lib.hid p1
              have Q2 := Lib.hid p2
              have Q3 := Lib.hid (below_next hzd.out p3)
              clear hv6 p1 p2 p3 P1 P2 P3
              refine doneT (by kernel_rfl) ?_ _
              try go_wp2_with fail
              go_meet
              case rel => exact ⟨bA, bB, st9, hb9, hn9, hc9, S9, ns9, cs9, K9, nk9, ck9, used9, rfl, rfl, Q3, Q1, Q2, AN⟩
          · go_simp
            obtain ⟨v32_, h32⟩ : ∃ z : World, z = v26_.alloc (.cells #[.int .i64 0, .slice none 0 0, .slice none 0 0, .slice none 0 0, .int .i64 0] 46) := ⟨_, rfl⟩
            have bw32 : Below v26_.heap.size v26_ v32_ := by rw [h32]; exact below_new _ _
            have KA32 : Hid (Blk v32_ v26_.heap.size 46 #[.int .i64 0, .slice none 0 0, .slice none 0 0, .slice none 0 0, .int .i64 0]) := by rw [h32]; exact Blk.new _ _ _
            rw [← h32]
            obtain ⟨bA, hbA⟩ : ∃ z : Nat, v26_.heap.size = z := ⟨_, rfl⟩
            have hg32 : wz.heap.size ≤ bA := by rw [← hbA]; exact HZ26.out.size
            rw [hbA] at KA32 ⊢
            have hne : bA ≠ bB := by have := KB26.out.lt; omega
            have KB32 := Lib.hid (KB26.out.keep bw32)
            have HZ32 := Lib.hid (below_next HZ26.out bw32)
            have hS : v32_.cell? ⟨b14, 0, none⟩ = some (.int .i64 V) ∧ v32_.cell? ⟨b14, 1, none⟩ = some (.slice C nC cC) := ⟨keepBox HZ32.out kz0, keepBox HZ32.out kz1⟩
            clear h32 hbA
            clear bw32
            refine hK _ _ (fun _ => hS) ?_
            clear hK
            (try simp only [Act.put, List.setIfInBounds_toArray, List.set_cons_zero, List.set_cons_succ])
            refine oneT (i := 3) (by kernel_rfl) rfl (by rfl) (fun Kq hK => ?_)
            go_simp
            refine (optionsOf_any o v32_ HOP.out).mono ?_
            rintro e v33_ ⟨so, ro, ko, po, rfl, hs1, hs2, hs3, hs4, bw33⟩
            have KA33 := Lib.hid (KA32.out.keep bw33)
            have KB33 := Lib.hid (KB32.out.keep bw33)
            have HZ33 := Lib.hid (below_next HZ32.out bw33)
            have hS : v33_.cell? ⟨b14, 0, none⟩ = some (.int .i64 V) ∧ v33_.cell? ⟨b14, 1, none⟩ = some (.slice C nC cC) := ⟨keepBox HZ33.out kz0, keepBox HZ33.out kz1⟩
            clear bw33
            refine hK _ _ (fun _ => hS) ?_
            clear hK
            (try simp only [Act.put, List.setIfInBounds_toArray, List.set_cons_zero, List.set_cons_succ])
            refine oneT (i := 4) (by kernel_rfl) rfl (by rfl) (fun Kq hK => ?_)
            go_simp
            have hlw := HZ33.out.size
            refine (cdcl_any C Q nC cC 4 dq cl.2 (asH bs 4) V v33_ (HCz.out.grid.keep HZ33.out) HNN.out (fun a ha => Nat.lt_of_lt_of_le (HLL.out a ha) hlw) (HQI.out.keep HZ33.out) HBES.out so ro ko po hs1 hs2 hs3 hs4 2000 (Nat.le_refl _) (core_ok _)).mono ?_
            rintro e v34_ ⟨st9, hb9, hn9, hc9, S9, ns9, cs9, K9, nk9, ck9, used9, rfl, bw34, ha9⟩
            have AN : Hid ((st9 = 1 ∧ iv = true) ∨ (st9 = 2 ∧ iv = false) ∨ st9 = 3) := by rw [← hV.out] at ha9; have h9 := heaps_answ hbl HTU.out (by rw [tsH_len]; omega) pv hcl.out ha9; rw [hiv.out] at h9; exact h9
            clear ha9 hlw
            have KA34 := Lib.hid (KA33.out.keep bw34)
            have KB34 := Lib.hid (KB33.out.keep bw34)
            have HZ34 := Lib.hid (below_next HZ33.out bw34)
            have hS : v34_.cell? ⟨b14, 0, none⟩ = some (.int .i64 V) ∧ v34_.cell? ⟨b14, 1, none⟩ = some (.slice C nC cC) := ⟨keepBox HZ34.out kz0, keepBox HZ34.out kz1⟩
            clear bw34
            refine hK _ _ (fun _ => hS) ?_
            clear hK
            (try simp only [Act.put, List.setIfInBounds_toArray, List.set_cons_zero, List.set_cons_succ])
            refine take0 (i := 5) (oi := _) (v := ?_) rfl (by kernel_rfl) (by kernel_rfl) (by kernel_rfl) (fun _ _ _ h => h) rfl (Or.inl ⟨by rfl, ?_⟩) (fun _ => hS) ?_
            rotate_left
            · intro w0; go_simp; with_reducible rfl
            (try simp only [Act.put, List.setIfInBounds_toArray, List.set_cons_zero, List.set_cons_succ])
            refine take0 (i := 6) (oi := _) (v := ?_) rfl (by kernel_rfl) (by kernel_rfl) (by kernel_rfl) (fun _ _ _ h => h) rfl (Or.inl ⟨by rfl, ?_⟩) (fun _ => hS) ?_
            rotate_left
            · intro w0; go_simp; with_reducible rfl
            (try simp only [Act.put, List.setIfInBounds_toArray, List.set_cons_zero, List.set_cons_succ])
            refine take0 (i := 7) (oi := _) (v := ?_) rfl (by kernel_rfl) (by kernel_rfl) (by kernel_rfl) (fun _ _ _ h => h) rfl (Or.inl ⟨by rfl, ?_⟩) (fun _ => hS) ?_
            rotate_left
            · intro w0; go_simp; with_reducible rfl
            (try simp only [Act.put, List.setIfInBounds_toArray, List.set_cons_zero, List.set_cons_succ])
            refine oneT (i := 10) (by kernel_rfl) rfl (by rfl) (fun Kq hK => ?_)
            have e0 := KA34.out.cell 0
            have e1 := KA34.out.cell 1
            have e2 := KA34.out.cell 2
            have e3 := KA34.out.cell 3
            have e4 := KA34.out.cell 4
            have f0 := KA34.out.frozen 0
            have f1 := KA34.out.frozen 1
            have f2 := KA34.out.frozen 2
            have f3 := KA34.out.frozen 3
            have f4 := KA34.out.frozen 4
            simp at e0 e1 e2 e3 e4
            have le := KA34.out.lt
            have pp := put5 KA34.out KB34.out hne HZ34.out hg32 (.int .i64 st9) (.slice hb9 hn9 hc9) (.slice S9 ns9 cs9) (.slice K9 nk9 ck9) (.int .i64 used9)
            go_simp
            clear e0 e1 e2 e3 e4 f0 f1 f2 f3 f4 le
            refine hK _ _ (noT_no (by kernel_rfl)) ?_
            clear hK
            (try simp only [Act.put, List.setIfInBounds_toArray, List.set_cons_zero, List.set_cons_succ])
            obtain ⟨v5, hv5⟩ : ∃ z : World, z = (((((v34_.setCell ⟨bA, 0, none⟩ (.int .i64 st9)).setCell ⟨bA, 1, none⟩ (.slice hb9 hn9 hc9)).setCell ⟨bA, 2, none⟩ (.slice S9 ns9 cs9)).setCell ⟨bA, 3, none⟩ (.slice K9 nk9 ck9)).setCell ⟨bA, 4, none⟩ (.int .i64 used9)) := ⟨_, rfl⟩
            obtain ⟨p1, p2, p3⟩ := pp
            rw [← hv5] at p1 p2 p3 ⊢
            have P1 := Lib.hid p1
            have P2 := Lib.hid p2
            have P3 := Lib.hid p3
            clear hv5 p1 p2 p3
            refine oneT (i := 11) (by kernel_rfl) rfl (by rfl) (fun Kq hK => ?_)
            have e0 := P2.out.cell 0
            have e1 := P2.out.cell 1
            have f0 := P2.out.frozen 0
            have f1 := P2.out.frozen 1
            simp at e0 e1
            have le := P2.out.lt
            have pq := put2_ P1.out P2.out hne P3.out hg26
            go_simp
            clear e0 e1 f0 f1 le
            refine hK _ _ (noT_no (by kernel_rfl)) ?_
            clear hK
            (try simp only [Act.put, List.setIfInBounds_toArray, List.set_cons_zero, List.set_cons_succ])
            obtain ⟨v6, hv6⟩ : ∃ z : World, z = ((v5.setCell ⟨bB, 0, none⟩ (.int .i64 0)).setCell ⟨bB, 1, none⟩ (.int .i64 0)) := ⟨_, rfl⟩
            obtain ⟨p1, p2, p3⟩ := pq
            rw [← hv6] at p1 p2 p3 ⊢
            have Q1 := Lib.hid p1
            have Q2 := Lib.hid p2
            have Q3 := Lib.hid (below_next hzd.out p3)
            clear hv6 p1 p2 p3 P1 P2 P3
            refine doneT (by kernel_rfl) ?_ _
            try go_wp2_with fail
            go_meet
            case rel => exact ⟨bA, bB, st9, hb9, hn9, hc9, S9, ns9, cs9, K9, nk9, ck9, used9, rfl, rfl, Q3, Q1, Q2, AN⟩
      case rest =>
        obtain ⟨bA, bB, st9, hb9, hn9, hc9, S9, ns9, cs9, K9, nk9, ck9, used9, rfl, rfl, hcb, HA, HF, HAN⟩ := hcut
        have HB9 := Lib.hid (below_next HBf.out hcb.out)
        have a0 := HA.out.cell 0
        have al0 := HA.out.lt
        simp at a0
        have g0 := HF.out.cell 0
        have gl := HF.out.lt
        simp at g0
        have han := HAN.out
        clear hcb HA HF HAN HBES HNN HCf HQf K14f HBf
        rcases han with ⟨rfl, rfl⟩ | ⟨rfl, rfl⟩ | rfl
        all_goals
          go_wp2_with fail
          go_ret
          exact ⟨rfl, HB9.out⟩
end Go.Proofs.YtlfgcblijfflfaaGreat

/- The law TopHeaps holds: for every input it returns true, and each argument reads behind the call as it read before. -/
namespace Go.Proofs.YtlfgcblijfflfaaGreat
open Go.ChangeShapes Go.WideShapes Go.ChangeAt Go.RowKit Go.Deep Go.Joins
set_option linter.unusedVariables false

theorem topHeaps_knob : ownKnob Tryz.prog.godebug = none := by kernel_rfl
theorem topHeaps_laidOut : laidOutB Tryz.prog = true := by kernel_rfl

set_option maxRecDepth 100000 in
theorem topHeaps_lifted (os : Os) (started : os.Started) (H : Type) (enc : TypeId × Value → H) :
    ReturnsInHanded {} Tryz.checked os 5 .any (Rows.topHeapsSpec.pre6 enc Tryz.prog Tryz.f5 Rows.topHeapsRow.domain false) (Rows.topHeapsSpec.post enc Tryz.prog Tryz.f5 false true false false) := by
  refine returnsInHanded_of_change (C := Tryz.checked) topHeaps_knob started (by kernel_rfl) Tryz.func5
    (ChangeSpec.witness6 (enc := enc) (C := Tryz.checked) false ⟨#[], #[.slice none 0 0, .int .i64 0, .int .i64 0, .int .i64 0], []⟩ 8 (by kernel_rfl) (by kernel_rfl) (by kernel_rfl) (by kernel_rfl)) ?_
  intro W base args ds gs before hval0 hW hcnd _
  have hval : ∀ (j : Nat) t v, Tryz.f5.params[j]? = some t → args[j]? = some v → Value.okWide Tryz.prog W .any base t v := hval0
  have hW' := hW
  obtain ⟨p, q, hA0, hV, rfl, hfz, hnd⟩ := hW
  have hA : DataW.TrodAll enc Tryz.prog W 0 (fun _ => true) true Tryz.f5.params.toList args.toList ds p := hA0
  rw [Tryz.params5] at hA hval
  obtain ⟨v0, vs0, d0, ds0, p0, q0, hargs, rfl, rfl, h0, r0⟩ := trodAll_cons hA
  obtain ⟨v1, vs1, d1, ds1, p1, q1, rfl, rfl, rfl, h1, r1⟩ := trodAll_cons r0
  obtain ⟨v2, vs2, d2, ds2, p2, q2, rfl, rfl, rfl, h2, r2⟩ := trodAll_cons r1
  obtain ⟨v3, vs3, d3, ds3, p3, q3, rfl, rfl, rfl, h3, r3⟩ := trodAll_cons r2
  obtain ⟨rfl, rfl, rfl⟩ := trodAll_nil r3
  obtain rfl : args = #[v0, v1, v2, v3] := by cases args; simp_all
  obtain ⟨rfl, rfl⟩ := trodVars_none hV
  have k0 := h0
  have lt0 : ∀ x ∈ p0, x.block < W.heap.size := by obtain ⟨m, hm⟩ := k0; exact DataW.trod_lt m _ _ _ hm
  obtain ⟨A0, n0, c0, rfl⟩ := okWide_slice Tryz.underlying22 (hval 0 22 v0 rfl rfl)
  obtain ⟨fuel0, hf0⟩ := h0
  obtain ⟨B0, m0, e0, x0, eq0, w0⟩ := rd_ints Tryz.underlying22 Tryz.underlying3 (by kernel_rfl) hf0
  cases eq0
  have k1 := h1
  have lt1 : ∀ x ∈ p1, x.block < W.heap.size := by obtain ⟨m, hm⟩ := k1; exact DataW.trod_lt m _ _ _ hm
  obtain ⟨a1, rfl, _, _, w1⟩ := open_int Tryz.underlying3 (hval 1 3 v1 rfl rfl) h1
  have k2 := h2
  have lt2 : ∀ x ∈ p2, x.block < W.heap.size := by obtain ⟨m, hm⟩ := k2; exact DataW.trod_lt m _ _ _ hm
  obtain ⟨a2, rfl, _, _, w2⟩ := open_int Tryz.underlying3 (hval 2 3 v2 rfl rfl) h2
  have k3 := h3
  have lt3 : ∀ x ∈ p3, x.block < W.heap.size := by obtain ⟨m, hm⟩ := k3; exact DataW.trod_lt m _ _ _ hm
  obtain ⟨a3, rfl, _, _, w3⟩ := open_int Tryz.underlying3 (hval 3 3 v3 rfl rfl) h3
  clear hA0 hval0
  refine (topHeaps_walk _ w0 (i64_wf w1) (i64_wf w2) (i64_wf w3)).mono fun e W' ⟨he, bel⟩ => ?_
  subst he
  exact ⟨_, rfl, _, _, _, [], _, [], hW', trodAll_mk1 (shut_bool Tryz.underlying4 _), (trodAll_cons_mk (Below.trod topHeaps_laidOut (by kernel_rfl) (of_decide_eq_true (by kernel_rfl)) k0 bel lt0) (trodAll_cons_mk (Below.trod topHeaps_laidOut (by kernel_rfl) (of_decide_eq_true (by kernel_rfl)) k1 bel lt1) (trodAll_cons_mk (Below.trod topHeaps_laidOut (by kernel_rfl) (of_decide_eq_true (by kernel_rfl)) k2 bel lt2) (trodAll_cons_mk (Below.trod topHeaps_laidOut (by kernel_rfl) (of_decide_eq_true (by kernel_rfl)) k3 bel lt3) trodAll_mk0)))), rfl, bel.frame _, fun h => by cases h⟩

/-- THE STATEMENT. -/
theorem topHeaps_holds : Rows.TopHeapsSaid :=
  OpenClaim.holds_of_wide 5 Tryz.f5 rfl rfl rfl rfl rfl rfl rfl ⟨rfl, rfl, rfl, rfl, rfl⟩ rfl rfl rfl rfl rfl (by kernel_rfl) Tryz.func5 (by kernel_rfl)
    (of_decide_eq_true (by kernel_rfl)) (by unfold Func.isWrapper; first | (rw [if_pos (by decide +kernel)]; kernel_rfl) | (rw [if_neg (by decide +kernel)]; exact ⟨rfl, rfl⟩))
    (fun os started H enc _ => topHeaps_lifted os started H enc)
end Go.Proofs.YtlfgcblijfflfaaGreat
