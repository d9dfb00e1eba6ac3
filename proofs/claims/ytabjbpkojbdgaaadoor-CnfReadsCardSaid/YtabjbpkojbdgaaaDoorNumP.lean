/- Contracts of the program's number, numbers, and of the closure that tells blanks. -/
import Derived.Test.YtabjbpkojbdgaaaDoorShelf3
import Derived.Test.YtabjbpkojbdgaaaDoorShelf4
import Derived.Test.YtabjbpkojbdgaaaDoorOwn
import Derived.Test.YtabjbpkojbdgaaaDoorBoxes
import Derived.Test.YtabjbpkojbdgaaaDoorSlices
import Derived.Test.YtabjbpkojbdgaaaDoorRdSt
import Derived.Test.YtabjbpkojbdgaaaDoorReadLems
import Derived.Lib.AtoiAllCases
import Derived.Lib.AppendIntMem
namespace Go.Proofs.YtabjbpkojbdgaaaDoor
open Go.RowKit
set_option linter.unusedSimpArgs false
set_option linter.unusedVariables false

/-- What the program's readers of numerals ask of the world: the table of powers, what the two errors' variables hold, some number in MaxLen. -/
structure Errs (w : World) : Prop where
  tab : Lib.TabIs Tryd.prog w "internal/strconv.uint64pow10" .u64 Lib.pow10Tab
  syn : ∃ te pe, w.cell? ⟨4, 0, none⟩ = some (.iface te pe)
  rng : ∃ te pe, w.cell? ⟨5, 0, none⟩ = some (.iface te pe)
  most : ∃ m, w.cell? ⟨1, 0, none⟩ = some (.int .i64 m)
theorem Errs.keep {w w' : World} (h : Errs w) (hb : Below w.heap.size w w') : Errs w' := by
  obtain ⟨a, b, c, d⟩ := h
  obtain ⟨te, pe, b⟩ := b
  obtain ⟨tf, pf, c⟩ := c
  obtain ⟨m, d⟩ := d
  exact ⟨Lib.tabBelow_of_tabIs a w' hb, ⟨te, pe, keepBox hb b⟩, ⟨tf, pf, keepBox hb c⟩, ⟨m, keepBox hb d⟩⟩

theorem nat_beq_ (a b : Nat) : ((a : Int) == (b : Int)) = (a == b) := by rw [Bool.eq_iff_iff]; simp; omega
/-- A number, or none; what lay in the world lies unturned. -/
def RetNum (r : Option Int) (w : World) (e : Ending) (w' : World) : Prop := ∃ v, e = .returned (.tuple #[.int .i64 v, .bool r.isSome]) ∧ (∀ x, r = some x → v = x) ∧ Below w.heap.size w w'

set_option maxHeartbeats 1000000 in
set_option maxRecDepth 100000 in
theorem number_any (s : ByteArray) (w : World) (hs : s.size ≤ 1000000) (hE : Errs w) (r : Option Int) (hr : Hid (numF s.data.toList = r)) :
    Calls Tryd.prog 30 #[.string s] w (RetNum r w) := by
  have hr2 : numP s.data.toList = r := by rw [numP_eq]; exact hr.out
  have hsz := Lib.hid (size_list s)
  unfold numP at hr2
  go_enter Tryd.func30, Tryd.ntmps30
  go_wp2_with fail
  cases ha : Lib.atoiAll s.data.toList with
  | ok v =>
    rw [ha] at hr2
    obtain ⟨b0, b1⟩ := Lib.atoiAll_bounds ha
    refine (Tryd.strconv_Atoi_ok s (by omega) v ha w).mono ?_
    rintro e w1 ⟨rfl, hw1⟩
    have hb1 : Below w.heap.size w w1 := by
      rcases hw1 with rfl | ⟨t, rfl⟩
      · exact Below.refl _ _
      · exact Lib.bytesWorld_below w _ t
    have hT := (hE.keep hb1).tab
    clear hw1 ha
    by_cases h7 : s.size ≤ 7
    · have u1 : (s.size : Int) ≤ 7 := by omega
      obtain ⟨t, ht⟩ : ∃ t : ByteArray, (⟨(Lib.itoa v).toArray⟩ : ByteArray) = t := ⟨_, rfl⟩
      have htl : t.data.toList = Lib.itoa v := by rw [← ht]
      obtain ⟨q, hq⟩ : ∃ q, (t.toList == s.toList) = q := ⟨_, rfl⟩
      have hqr : Hid (r = if q then some v else none) := by
        show _ = _
        rw [← hr2, ← hq, ByteArray.toList_eq, ByteArray.toList_eq, htl]
        by_cases he : Lib.itoa v = s.data.toList
        · simp [he, ← hsz.out, h7]
        · simp [he]
      clear hr2 htl
      go_wp2_with fail
      refine (Tryd.strconv_Itoa v b0 b1 w1 hT).mono ?_
      rintro e w2 ⟨rfl, k, os, rfl⟩
      have hb2 := below_next hb1 (Lib.below_grow _ w1 (Nat.le_refl _) k os)
      rw [ht]
      clear hT ht
      go_wp2_with fail
      cases q
      · exact bodyPost_ret (v := .tuple #[.int .i64 v, .bool false]) (by simp [results, Tryd.results30, go_sem]) rfl ⟨v, by rw [hqr.out]; rfl, by rw [hqr.out]; simp, hb2⟩
      · exact bodyPost_ret (v := .tuple #[.int .i64 v, .bool true]) (by simp [results, Tryd.results30, go_sem]) rfl ⟨v, by rw [hqr.out]; rfl, by rw [hqr.out]; simp, hb2⟩
    · have u1 : ¬ (s.size : Int) ≤ 7 := by omega
      have hrn : r = none := by
        rw [← hr2]
        simp only []
        rw [if_neg (by have := hsz.out; omega)]
      subst hrn
      clear hr2 hT
      go_wp2_with fail
      exact bodyPost_ret (v := .tuple #[.int .i64 v, .bool false]) (by simp [results, Tryd.results30, go_sem]) rfl ⟨v, rfl, by simp, hb1⟩
  | range =>
    rw [ha] at hr2
    have hrn : r = none := hr2.symm
    obtain ⟨te, pe, hc⟩ := hE.rng
    obtain ⟨sat, hsat⟩ : ∃ z, Lib.atoiSat s.data.toList = z := ⟨_, rfl⟩
    refine (Tryd.strconv_Atoi_range s (by omega) ha _ w hc (Or.inr ⟨te, pe, rfl⟩)).mono ?_
    rintro e w1 ⟨N, rfl, _, _, hb1⟩
    rw [hsat]
    subst hrn
    clear hr2 hc hsat
    go_wp2_with fail
    exact bodyPost_ret (v := .tuple #[.int .i64 sat, .bool false]) (by simp [results, Tryd.results30, go_sem]) rfl ⟨sat, rfl, by simp, hb1⟩
  | _ =>
    rw [ha] at hr2
    have hrn : r = none := hr2.symm
    obtain ⟨te, pe, hc⟩ := hE.syn
    refine (Tryd.strconv_Atoi_syntax s (by omega) ha _ w hc (Or.inr ⟨te, pe, rfl⟩)).mono ?_
    rintro e w1 ⟨N, rfl, _, _, hb1⟩
    subst hrn
    clear hr2 hc
    go_wp2_with fail
    exact bodyPost_ret (v := .tuple #[.int .i64 0, .bool false]) (by simp [results, Tryd.results30, go_sem]) rfl ⟨0, rfl, by simp, hb1⟩

set_option maxHeartbeats 400000 in
theorem blank_any (x : Nat) (w : World) : Calls Tryd.prog 20 #[.int .i32 (x : Int)] w fun e w' => e = .returned (.bool (spP x)) ∧ ∃ q, w' = w.drewN q := by
  have e : spP x = (((x : Int) == 32) || ((x : Int) == 9)) := by
    unfold spP
    congr 1
    · exact (nat_beq_ x 32).symm
    · exact (nat_beq_ x 9).symm
  rw [e]
  go_enter Tryd.func20, Tryd.ntmps20
  by_cases h1 : (x : Int) = 32
  · have d1 : ((x : Int) == 32) = true := by simpa using h1
    go_wp2_with fail
    go_ret
    exact ⟨by rw [d1]; rfl, 0, rfl⟩
  · have d1 : ((x : Int) == 32) = false := by simpa using h1
    go_wp2_with fail
    go_ret
    exact ⟨by rw [d1]; rfl, 0, rfl⟩
theorem enters_blank : ∀ args w, (callFunc 20 args).run Tryd.prog w = .ok (.enter 20 args) w := enters_of Tryd.func20 (by kernel_rfl) rfl

/-- strings.FieldsFunc at blanks. -/
theorem fields_any (s : ByteArray) (w : World) (hs : s.size ≤ 1000000) : Calls Tryd.prog 19 #[.string s, .func (.func 20) #[] #[]] w fun e w' =>
    ∃ (g n : Nat) (ss : List ByteArray), e = .returned (.slice (some ⟨g, 0, none⟩) n n) ∧ Own 9 w' w.heap.size (some ⟨g, 0, none⟩) n n (ss.map Value.string) ∧ ss.map (·.data.toList) = wordsF s.data.toList ∧ Below w.heap.size w w' := by
  refine (Tryd.strings_FieldsFunc 20 #[] enters_blank spP s w (by omega) (fun W x _ => blank_any x W)).mono ?_
  rintro e w' ⟨A, rfl, _, ho, hb⟩
  exact ⟨A, _, _, rfl, ho, goFields_words s, hb⟩

theorem Sl.drop2 {w : World} {g n c : Nat} {xs : List Value} (h : Sl w (some ⟨g, 0, none⟩) n c xs) (hn : 2 < n) : Sl w (some ⟨g, 2, none⟩) (n - 2) (c - 2) (xs.drop 2) := by
  refine ⟨by rw [List.length_drop, h.len], by have := h.le; omega, by have := h.cap; omega, fun _ => ?_⟩
  obtain ⟨b, off, e, hlt, hc⟩ := h.at_ (by omega)
  cases e
  refine ⟨g, 2, rfl, hlt, fun k hk => ?_⟩
  rw [List.getElem?_drop, ← hc (2 + k) (by omega)]
  simp

theorem map_nil_append (x : Option (List Int)) : x.map (([] : List Int) ++ ·) = x := by cases x <;> rfl
/-- Numbers, or none. -/
def RetNums (r : Option (List Int)) (w : World) (e : Ending) (w' : World) : Prop :=
  ∃ A n c ns, e = .returned (.tuple #[.slice A n c, .bool r.isSome]) ∧ Own 3 w' w.heap.size A n c (ns.map (Value.int .i64)) ∧ (∀ x, r = some x → ns = x) ∧ (∀ x ∈ ns, I64 x) ∧ Below w.heap.size w w'

theorem int_info_n : (Tryd.prog.info? 3).map (fun i => (i.zero, i.size, i.bytes)) = some (some (.int .i64 0), 1, 8) := by kernel_rfl

set_option maxHeartbeats 2000000 in
set_option maxRecDepth 100000 in
theorem numbers_any (A : Option Addr) (n c : Nat) (ss : List ByteArray) (w : World) (h : Sl w A n c (ss.map Value.string)) (hn : n ≤ 1000000) (hz : ∀ s ∈ ss, s.size ≤ 1000000) (hE : Errs w) (r : Option (List Int)) (hr : Hid (numsF (ss.map (·.data.toList)) = r)) :
    Calls Tryd.prog 21 #[.slice A n c] w (RetNums r w) := by
  have HL := Lib.hid h.len
  have HZ := Lib.hid hz
  have hbd := h.le
  have hcap := h.cap
  unfold maxLen at hcap
  obtain ⟨i0, hi0, hz0, hz1, hz2⟩ := info_parts int_info_n
  clear hz
  go_enter Tryd.func21, Tryd.ntmps21
  go_wp2_with fail
  go_loopw [4, 11] (fun t4 t11 wr => ∃ (j m d : Nat) (N : Option Addr) (ns : List Int), j ≤ n ∧ m ≤ j ∧ t4 = .slice N m d ∧ t11 = .int .i64 j ∧ Hid (Own 3 wr w.heap.size N m d (ns.map (Value.int .i64))) ∧ Hid (∀ x ∈ ns, I64 x) ∧ Hid (Below w.heap.size w wr) ∧ Hid ((numsF ((ss.map (·.data.toList)).drop j)).map (ns ++ ·) = r)) (fun _ q _ => n - (intOf q).toNat)
  case atStart => exact ⟨0, 0, 0, none, [], Nat.zero_le _, Nat.le_refl _, rfl, rfl, Own.nil _ _ _, (by show ∀ x ∈ ([] : List Int), I64 x; simp), Below.refl _ _, by show _ = _; rw [← hr.out, List.drop_zero]; exact map_nil_append _⟩
  case round =>
    obtain ⟨j, m, d, N, ns, hj, hm, rfl, rfl, HO, HI, HB, HR⟩ := hrel
    have hx := h.keep HB.out
    by_cases hjn : j < n
    · obtain ⟨b, off, v, rfl, hbl, hc, hv⟩ := hx.cell hjn
      rw [List.getElem?_map, Option.map_eq_some_iff] at hv
      obtain ⟨s, hs, rfl⟩ := hv
      have hsz := HZ.out s (List.mem_of_getElem? hs)
      have HWJ : Hid ((ss.map (·.data.toList))[j]? = some s.data.toList) := by show _ = _; rw [List.getElem?_map, hs]; rfl
      obtain ⟨q, Hq⟩ : ∃ q, Hid (numF s.data.toList = q) := ⟨_, rfl⟩
      have v1 : (j : Int) < (n : Int) := by omega
      have v2 : (0 : Int) ≤ (j : Int) := by omega
      clear hs
      go_wp2_with fail
      refine (number_any s _ hsz (hE.keep HB.out) q Hq).mono ?_
      rintro e w1 ⟨v, rfl, hqv, hb1⟩
      have HB1 := Lib.hid (below_next HB.out hb1)
      have HO1 := Lib.hid (HO.out.keep hb1)
      have hsz1 := HB1.out.size
      cases q with
      | none =>
        have hrn : r = none := numsF_none HWJ.out Hq.out HR.out
        subst hrn
        clear HR hqv hb1
        go_wp2_with fail
        exact bodyPost_ret (v := .tuple #[.slice none 0 0, .bool false]) (by simp [results, Tryd.results21, go_sem]) rfl ⟨none, 0, 0, [], rfl, Own.nil _ _ _, by simp, by simp, HB1.out⟩
      | some y =>
        obtain rfl : v = y := hqv y rfl
        have HR2 := Lib.hid (numsF_some HWJ.out Hq.out HR.out)
        have hyb := numF_bd Hq.out
        have hi64 : I64 v := by unfold I64; omega
        have HOn := Lib.hid (HO1.out.keep (below_new w1 (.cells #[.int .i64 v] 3)))
        have hS := ints_made w1 3 [v] rfl (by simpa using hi64) (by simp [maxLen])
        clear HR hqv hb1 HO
        go_wp2_with (first
          | (at_builtin
             refine wpList_append_sl _ rfl (.tmp 22) (.tmp 24) _ rfl w.heap.size 3 i0 _ 8 Tryd.underlying46 hi0 hz0 hz1 hz2 rfl N m d _ rfl HOn.out (some ⟨w1.heap.size, 0, none⟩) 1 1 _ rfl hS.sl (ints_one _) (by simp only [maxLen]; omega) (by omega) (by simp; omega) ?_
             intro N2 d2 w6 hN2 hg6 hat6
             have HN2 : Hid (Own 3 w6 w.heap.size N2 (m + 1) d2 ((ns ++ [v]).map (Value.int .i64))) := by rw [List.map_append]; exact hN2
             have HB6 := Lib.hid (below_grown (below_alloc HB1.out (.cells #[.int .i64 v] 3)) HOn.out (Nat.le_refl _) hg6)
             clear hN2 hg6 hat6))
        go_roundw
        case rel =>
          refine ⟨j + 1, m + 1, d2, N2, ns ++ [v], by omega, by omega, rfl, by go_num, HN2, fun x hx => ?_, HB6, HR2⟩
          rcases List.mem_append.1 hx with hx | hx
          · exact HI.out x hx
          · rw [List.mem_singleton.1 hx]; exact hi64
        case measure => simp [intOf] <;> omega
    · have hrs : r = some ns := numsF_end (by rw [List.length_map]; have := HL.out; rw [List.length_map] at this; omega) HR.out
      subst hrs
      clear HR
      go_wp2_with fail
      exact bodyPost_ret (v := .tuple #[.slice N m d, .bool true]) (by simp [results, Tryd.results21, go_sem]) rfl ⟨N, m, d, ns, rfl, HO.out, by simp, HI.out, HB.out⟩
end Go.Proofs.YtabjbpkojbdgaaaDoor
