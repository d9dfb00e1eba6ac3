/- Contracts of act.facts, act.share, act.Bits, act.Apply at lists of facts. -/
import Derived.Test.YtlfgcblijfflfaaActs
import Derived.Test.YtlfgcblijfflfaaPlanBits
import Derived.Test.YtlfgcblijfflfaaSlices
import Derived.Test.YtlfgcblijfflfaaBoxes
import Derived.BigQuiet
namespace Go.Proofs.Ytlfgcblijfflfaa
open Go.RowKit
set_option linter.unusedSimpArgs false
set_option linter.unusedVariables false

theorem some_up {z i : Nat} {x y : Int} (hx : (someF z)[i]? = some x) (hy : (someF z)[i + 1]? = some y) : x < y := by
  obtain ⟨h1, e1⟩ := List.getElem?_eq_some_iff.1 hx
  obtain ⟨h2, e2⟩ := List.getElem?_eq_some_iff.1 hy
  have := List.pairwise_iff_getElem.1 (someI_up z 4) i (i + 1) h1 h2 (by omega)
  rw [← e1, ← e2]
  exact this
theorem some_bd {z i : Nat} {x : Int} (hx : (someF z)[i]? = some x) : 0 ≤ x ∧ x < 4 := by
  obtain ⟨k, h1, _, rfl⟩ := mem_someI.1 (List.mem_of_getElem? hx)
  omega

set_option maxHeartbeats 2000000 in
set_option maxRecDepth 100000 in
theorem facts_any (A : Option Addr) (n c z : Nat) (w : World) (h : Ints w A n c (someF z)) : Calls Try.prog 39 #[.slice A n c, .int .i64 4] w (RetQ (.bool true) w) := by
  have H := Lib.hid h
  have hlen := h.len
  have hn4 : n ≤ 4 := by rw [← hlen]; exact someI_len z 4
  clear h hlen
  go_enter Try.func39, Try.ntmps39
  go_wp2_with fail
  go_loopw [9] (fun s wr => ∃ i m : Nat, i ≤ n ∧ s = .int .i64 i ∧ Hid (wr = w.drewN m)) (fun s _ => n - (intOf s).toNat)
  case atStart => exact ⟨0, 0, Nat.zero_le _, rfl, rfl⟩
  case round =>
    obtain ⟨i, m, hi, rfl, HW⟩ := hrel
    have HB : Hid (Below w.heap.size w wr) := by show Below _ _ _; rw [HW.out]; exact below_drewN _ _
    by_cases hlt : i < n
    · have hx := H.out.keep HB.out
      obtain ⟨b, off, y, hLe, hbb, hcell, y1, y2, hy⟩ := hx.round hlt
      have hyb := some_bd hy.out
      have q1 : (i : Int) < (n : Int) := by omega
      have q0 : (0 : Int) ≤ (i : Int) := by omega
      have d1 : ¬ y < 0 := by omega
      have d2 : ¬ y ≥ 4 := by omega
      have d11 : decide (y < 0) = false := decide_eq_false d1
      have d22 : decide (4 ≤ y) = false := decide_eq_false (by omega)
      by_cases h0 : i = 0
      · subst h0
        rw [Nat.add_zero] at hcell
        subst hLe
        clear hx hy
        go_wp2_with fail
        go_roundw
        case rel => exact ⟨1, m, by omega, by go_num, HW⟩
        case measure => simp [intOf] <;> omega
      · obtain ⟨j, hj⟩ : ∃ j, Hid (i = j + 1) := ⟨i - 1, by show _ = _; omega⟩
        have hj1 := hj.out
        obtain ⟨b', off', x, hLe', hbb', hcell', x1, x2, hxk⟩ := hx.round (k := j) (by omega)
        have hup : x < y := by have h9 := hy.out; rw [hj.out] at h9; exact some_up hxk.out h9
        rw [hLe] at hLe'
        cases hLe'
        subst hLe
        have p0 : (0 : Int) < (i : Int) := by omega
        have p00 : decide ((0 : Int) < (i : Int)) = true := decide_eq_true p0
        have e0 : (i : Int) - 1 = (j : Int) := by omega
        have e1 : (j : Int) < (n : Int) := by omega
        have e2 : (0 : Int) ≤ (j : Int) := by omega
        have p1 : ¬ y ≤ x := by omega
        have p11 : decide (y ≤ x) = false := decide_eq_false p1
        clear hx hy hxk hj1
        go_wp2_with fail
        go_roundw
        case rel => exact ⟨i + 1, m, by omega, by go_num, HW⟩
        case measure => simp [intOf] <;> omega
    · have q1 : ¬ (i : Int) < (n : Int) := by omega
      go_wp2_with fail
      go_ret
      exact ⟨rfl, m, HW.out⟩

theorem enters_share1 : Enters Try.prog 59 := enters_of Try.func59 (by kernel_rfl) rfl
theorem share1_any (A : Option Addr) (n c : Nat) (l : List Int) (x : Int) (B : Nat) (W : World) (h : Ints W A n c l) (hc : W.cell? ⟨B, 0, none⟩ = some (.slice A n c)) (hx : hasB l x = false) :
    Calls Try.prog 59 #[.int .i64 x, .pointer (some ⟨B, 0, none⟩)] W (RetV (.bool false) W) := by
  have H := Lib.hid h
  have HX := Lib.hid hx
  clear h hx
  go_enter Try.func59, Try.ntmps59
  go_wp2_with fail
  refine (contains_ints A n c l x W H.out false HX).mono ?_
  rintro e w1 ⟨rfl, m, hm⟩
  go_wp2_with fail
  go_ret
  exact ⟨rfl, by first | exact below_drewN _ _ | (rw [hm]; exact below_drewN _ _)⟩
/-- Two lists of facts that share none. -/
theorem share_none (A B : Option Addr) (n c m d y z : Nat) (w : World) (h1 : Ints w A n c (someF y)) (h2 : Ints w B m d (someF z)) (hyz : y &&& z = 0) : Calls Try.prog 40 #[.slice A n c, .slice B m d] w (RetV (.bool false) w) := by
  have H1 := Lib.hid h1
  have H2 := Lib.hid h2
  have hno : ∀ x ∈ someF y, hasB (someF z) x = false := fun x hx => by
    obtain ⟨k, hk1, hk2, rfl⟩ := mem_someI.1 hx
    cases e : hasB (someF z) (k : Int) with
    | false => rfl
    | true =>
      obtain ⟨k', _, hk4, ek⟩ := mem_someI.1 (hasB_iff.1 e)
      have : k = k' := by omega
      subst this
      have h9 : (y &&& z).testBit k = false := by rw [hyz]; exact Nat.zero_testBit k
      rw [Nat.testBit_and, hk2, hk4] at h9
      cases h9
  obtain ⟨w0, hw0⟩ : ∃ z9 : World, z9 = w.alloc (.cells #[.slice B m d] 22) := ⟨_, rfl⟩
  have hb0 : Below w.heap.size w w0 := by rw [hw0]; exact below_new _ _
  have hc0 : w0.cell? ⟨w.heap.size, 0, none⟩ = some (.slice B m d) := by rw [hw0]; simp [go_sem]
  have H10 := Lib.hid (H1.out.keep hb0)
  have HPR : Hid (Pred 59 #[.pointer (some ⟨w.heap.size, 0, none⟩)] (someF y) (fun _ => false) w0) := by
    intro W x hW hx
    exact share1_any B m d (someF z) x w.heap.size W ((H2.out.keep hb0).keep hW) (keepBox hW hc0) (hno x hx)
  have HQ : Hid ((someF y).any (fun _ => false) = false) := by show _ = _; simp
  have HB0 := Lib.hid hb0
  clear h1 h2 hb0 hno hc0
  go_enter Try.func40, Try.ntmps40
  go_wp2_with fail
  rw [← hw0]
  clear hw0
  refine (containsFunc_ints _ _ _ _ _ H10.out _ _ enters_share1 _ HPR.out false HQ).mono ?_
  rintro e w1 ⟨rfl, hb1⟩
  go_wp2_with fail
  go_ret
  exact ⟨rfl, below_next HB0.out hb1⟩
theorem bitsL_lt : ∀ {l : List Int} {o : Nat}, (∀ f ∈ l, 0 ≤ f ∧ f < 4) → o < 16 → bitsL l o < 16
  | [], o, _, ho => ho
  | f :: r, o, h, ho => by
    have hf := h f List.mem_cons_self
    rw [bitsL]
    have h1 : 2 ^ f.toNat < 2 ^ 4 := Nat.pow_lt_pow_right (by omega) (by omega)
    exact bitsL_lt (fun g hg => h g (List.mem_cons_of_mem _ hg)) (Nat.or_lt_two_pow (n := 4) ho h1)
theorem bitsL_snoc : ∀ (l : List Int) (f : Int) (o : Nat), bitsL (l ++ [f]) o = bitsL l o ||| 2 ^ f.toNat
  | [], f, o => rfl
  | g :: r, f, o => by rw [List.cons_append, bitsL, bitsL, bitsL_snoc r f]

set_option maxHeartbeats 2000000 in
set_option maxRecDepth 100000 in
theorem bits_any (A : Option Addr) (n c z : Nat) (w : World) (h : Ints w A n c (someF z)) (hz : z < 16) : Calls Try.prog 17 #[.slice A n c] w (RetQ (.int .i64 z) w) := by
  have H := Lib.hid h
  have hlen := h.len
  have hn4 : n ≤ 4 := by rw [← hlen]; exact someI_len z 4
  have hfin : Hid (bitsL ((someF z).take n) 0 = z) := by show _ = _; rw [← hlen, List.take_length]; exact bitsL_some z hz
  clear h hlen
  go_enter Try.func17, Try.ntmps17
  go_wp2_with fail
  go_loopw [3, 8] (fun s3 s wr => ∃ i m o : Nat, i ≤ n ∧ s3 = .int .i64 o ∧ s = .int .i64 i ∧ Hid (wr = w.drewN m) ∧ Hid (bitsL ((someF z).take i) 0 = o)) (fun _ s _ => n - (intOf s).toNat)
  case atStart => exact ⟨0, 0, 0, Nat.zero_le _, rfl, rfl, rfl, rfl⟩
  case round =>
    obtain ⟨i, m, o, hi, rfl, rfl, HW, HO⟩ := hrel
    have HB : Hid (Below w.heap.size w wr) := by show Below _ _ _; rw [HW.out]; exact below_drewN _ _
    by_cases hlt : i < n
    · have hx := H.out.keep HB.out
      obtain ⟨b, off, y, hLe, hbb, hcell, y1, y2, hy⟩ := hx.round hlt
      have hyb := some_bd hy.out
      have q1 : (i : Int) < (n : Int) := by omega
      have q0 : (0 : Int) ≤ (i : Int) := by omega
      have ho16 : o < 16 := by rw [← HO.out]; exact bitsL_lt (fun f hf => by obtain ⟨k, h1, _, rfl⟩ := mem_someI.1 (List.mem_of_mem_take hf); omega) (by omega)
      obtain ⟨f, rfl⟩ : ∃ f : Nat, y = (f : Int) := ⟨y.toNat, by omega⟩
      have hf4 : f < 4 := by omega
      have hfn : (f : Int).toNat = f := by omega
      have hp : 2 ^ f < 2 ^ 4 := Nat.pow_lt_pow_right (by omega) hf4
      have hp16 : 2 ^ f < 16 := hp
      have hw64 : wrap64 (2 ^ f) = ((2 ^ f : Nat) : Int) := by
        rcases (show f = 0 ∨ f = 1 ∨ f = 2 ∨ f = 3 by omega) with rfl | rfl | rfl | rfl <;> simp [wrap64]
      have hor : bits .or .i64 (o : Int) ((2 : Int) ^ f) = ((o ||| 2 ^ f : Nat) : Int) := by
        have h9 := or_n ho16 hp16
        rw [Int.natCast_pow] at h9
        exact h9
      have HO2 : Hid (bitsL ((someF z).take (i + 1)) 0 = o ||| 2 ^ f) := by show _ = _; rw [take_snoc_of hy.out, bitsL_snoc, HO.out]; rfl
      have HP := Lib.hid hp
      have HP16 := Lib.hid hp16
      subst hLe
      clear hx hy hp hp16
      go_wp2_with fail
      go_roundw
      case rel => exact ⟨i + 1, m, o ||| 2 ^ f, by omega, by first | rfl | rw [hor], by go_num, HW, HO2⟩
      case measure => simp [intOf] <;> omega
    · have q1 : ¬ (i : Int) < (n : Int) := by omega
      obtain rfl : i = n := by omega
      have := HO.out.symm.trans hfin.out
      subst this
      go_wp2_with fail
      go_ret
      exact ⟨rfl, m, HW.out⟩

set_option maxHeartbeats 2000000 in
set_option maxRecDepth 100000 in
theorem apply_none (v : Av) (a : Ac) (s : Nat) (w : World) (i0 : Ints w v.A1 v.n1 v.c1 (someF a.need)) (i1 : Ints w v.A2 v.n2 v.c2 (someF a.bar)) (i2 : Ints w v.A3 v.n3 v.c3 (someF a.add)) (i3 : Ints w v.A4 v.n4 v.c4 (someF a.drop)) (ha : AcOk a) (hs : s < 16) (h : appF a s = none) :
    Calls Try.prog 19 #[.agg #[.slice v.A1 v.n1 v.c1, .slice v.A2 v.n2 v.c2, .slice v.A3 v.n3 v.c3, .slice v.A4 v.n4 v.c4], .int .i64 s] w (RetV (.tuple #[.int .i64 0, .bool false]) w) := by
  obtain ⟨w0, hw0⟩ : ∃ z9 : World, z9 = w.alloc (.cells #[.slice v.A1 v.n1 v.c1, .slice v.A2 v.n2 v.c2, .slice v.A3 v.n3 v.c3, .slice v.A4 v.n4 v.c4] 58) := ⟨_, rfl⟩
  have hb0 : Below w.heap.size w w0 := by rw [hw0]; exact below_new _ _
  have K0 : Blk w0 w.heap.size 58 #[.slice v.A1 v.n1 v.c1, .slice v.A2 v.n2 v.c2, .slice v.A3 v.n3 v.c3, .slice v.A4 v.n4 v.c4] := by rw [hw0]; exact Blk.new _ _ _
  have HB0 := Lib.hid hb0
  have I0 := Lib.hid (i0.keep hb0)
  have I1 := Lib.hid (i1.keep hb0)
  have I2 := Lib.hid (i2.keep hb0)
  have I3 := Lib.hid (i3.keep hb0)
  have k0 := K0.cell 0
  have k1 := K0.cell 1
  have k2 := K0.cell 2
  have k3 := K0.cell 3
  have k4 := K0.lt
  simp at k0 k1 k2 k3
  have HA := Lib.hid ha
  have b1 := and_n hs ha.n
  have b2 := and_n hs ha.b
  unfold appF at h
  by_cases hn : s &&& a.need = a.need
  · have hbar : ¬ s &&& a.bar = 0 := fun e => by rw [if_pos ⟨hn, e⟩] at h; cases h
    rw [hn] at b1
    obtain ⟨x2, hx2⟩ : ∃ x2 : Int, ((s &&& a.bar : Nat) : Int) = x2 := ⟨_, rfl⟩
    rw [hx2] at b2
    have d2 : (x2 != 0) = true := by rw [bne_iff_ne]; omega
    clear hn hbar hx2
    clear K0 hb0 i0 i1 i2 i3 ha h
    go_enter Try.func19, Try.ntmps19
    go_wp2_with fail
    rw [← hw0]
    clear hw0
    go_quiet ((first | (go_at_call 17; with_reducible exact RetQ.quiet (bits_any _ _ _ a.need _ (I0.out.drewN _) HA.out.n)) | (go_at_call 17; with_reducible exact RetQ.quiet (bits_any _ _ _ a.bar _ (I1.out.drewN _) HA.out.b)) | (go_at_call 17; with_reducible exact RetQ.quiet (bits_any _ _ _ a.add _ (I2.out.drewN _) HA.out.p)) | (go_at_call 17; with_reducible exact RetQ.quiet (bits_any _ _ _ a.drop _ (I3.out.drewN _) HA.out.d)) | (go_at_call 17; with_reducible exact RetQ.quiet (bits_any _ _ _ a.add _ ((I2.out.drewN _).drewN _) HA.out.p)) | (go_at_call 17; with_reducible exact RetQ.quiet (bits_any _ _ _ a.drop _ ((I3.out.drewN _).drewN _) HA.out.d))))
    go_wp2_with fail
    go_ret2
    exact ⟨rfl, below_next HB0.out (below_drewN _ _)⟩
  · obtain ⟨x1, hx1⟩ : ∃ x1 : Int, ((s &&& a.need : Nat) : Int) = x1 := ⟨_, rfl⟩
    rw [hx1] at b1
    have d1 : (x1 != (a.need : Int)) = true := by rw [bne_iff_ne]; omega
    clear hn hx1
    clear K0 hb0 i0 i1 i2 i3 ha h
    go_enter Try.func19, Try.ntmps19
    go_wp2_with fail
    rw [← hw0]
    clear hw0
    go_quiet ((first | (go_at_call 17; with_reducible exact RetQ.quiet (bits_any _ _ _ a.need _ (I0.out.drewN _) HA.out.n)) | (go_at_call 17; with_reducible exact RetQ.quiet (bits_any _ _ _ a.bar _ (I1.out.drewN _) HA.out.b)) | (go_at_call 17; with_reducible exact RetQ.quiet (bits_any _ _ _ a.add _ (I2.out.drewN _) HA.out.p)) | (go_at_call 17; with_reducible exact RetQ.quiet (bits_any _ _ _ a.drop _ (I3.out.drewN _) HA.out.d)) | (go_at_call 17; with_reducible exact RetQ.quiet (bits_any _ _ _ a.add _ ((I2.out.drewN _).drewN _) HA.out.p)) | (go_at_call 17; with_reducible exact RetQ.quiet (bits_any _ _ _ a.drop _ ((I3.out.drewN _).drewN _) HA.out.d))))
    go_wp2_with fail
    go_ret2
    exact ⟨rfl, below_next HB0.out (below_drewN _ _)⟩
set_option maxHeartbeats 2000000 in
set_option maxRecDepth 100000 in
theorem apply_some (v : Av) (a : Ac) (s s1 : Nat) (w : World) (i0 : Ints w v.A1 v.n1 v.c1 (someF a.need)) (i1 : Ints w v.A2 v.n2 v.c2 (someF a.bar)) (i2 : Ints w v.A3 v.n3 v.c3 (someF a.add)) (i3 : Ints w v.A4 v.n4 v.c4 (someF a.drop)) (ha : AcOk a) (hs : s < 16) (h : appF a s = some s1) :
    Calls Try.prog 19 #[.agg #[.slice v.A1 v.n1 v.c1, .slice v.A2 v.n2 v.c2, .slice v.A3 v.n3 v.c3, .slice v.A4 v.n4 v.c4], .int .i64 s] w (RetV (.tuple #[.int .i64 s1, .bool true]) w) := by
  obtain ⟨w0, hw0⟩ : ∃ z9 : World, z9 = w.alloc (.cells #[.slice v.A1 v.n1 v.c1, .slice v.A2 v.n2 v.c2, .slice v.A3 v.n3 v.c3, .slice v.A4 v.n4 v.c4] 58) := ⟨_, rfl⟩
  have hb0 : Below w.heap.size w w0 := by rw [hw0]; exact below_new _ _
  have K0 : Blk w0 w.heap.size 58 #[.slice v.A1 v.n1 v.c1, .slice v.A2 v.n2 v.c2, .slice v.A3 v.n3 v.c3, .slice v.A4 v.n4 v.c4] := by rw [hw0]; exact Blk.new _ _ _
  have HB0 := Lib.hid hb0
  have I0 := Lib.hid (i0.keep hb0)
  have I1 := Lib.hid (i1.keep hb0)
  have I2 := Lib.hid (i2.keep hb0)
  have I3 := Lib.hid (i3.keep hb0)
  have k0 := K0.cell 0
  have k1 := K0.cell 1
  have k2 := K0.cell 2
  have k3 := K0.cell 3
  have k4 := K0.lt
  simp at k0 k1 k2 k3
  have HA := Lib.hid ha
  have b1 := and_n hs ha.n
  have b2 := and_n hs ha.b
  unfold appF at h
  split at h
  · rename_i hh
    cases h
    rw [hh.1] at b1
    rw [hh.2] at b2
    have b3 := andNot_n hs ha.d
    have b4 := or_n (a := s &&& (15 ^^^ a.drop)) (b := a.add) (Nat.lt_of_le_of_lt Nat.and_le_left hs) ha.p
    obtain ⟨x3, hx3⟩ : ∃ x3 : Int, ((s &&& (15 ^^^ a.drop) : Nat) : Int) = x3 := ⟨_, rfl⟩
    rw [hx3] at b3 b4
    obtain ⟨x4, hx4⟩ : ∃ x4 : Int, Hid ((((s &&& (15 ^^^ a.drop)) ||| a.add : Nat) : Int) = x4) := ⟨_, rfl⟩
    rw [hx4.out] at b4 ⊢
    have d0 : ((((a.need : Nat) : Int)) != ((a.need : Nat) : Int)) = false := by simp
    clear hh hx3 hx4
    clear K0 hb0 i0 i1 i2 i3 ha
    go_enter Try.func19, Try.ntmps19
    go_wp2_with fail
    rw [← hw0]
    clear hw0
    go_quiet ((first | (go_at_call 17; with_reducible exact RetQ.quiet (bits_any _ _ _ a.need _ (I0.out.drewN _) HA.out.n)) | (go_at_call 17; with_reducible exact RetQ.quiet (bits_any _ _ _ a.bar _ (I1.out.drewN _) HA.out.b)) | (go_at_call 17; with_reducible exact RetQ.quiet (bits_any _ _ _ a.add _ (I2.out.drewN _) HA.out.p)) | (go_at_call 17; with_reducible exact RetQ.quiet (bits_any _ _ _ a.drop _ (I3.out.drewN _) HA.out.d)) | (go_at_call 17; with_reducible exact RetQ.quiet (bits_any _ _ _ a.add _ ((I2.out.drewN _).drewN _) HA.out.p)) | (go_at_call 17; with_reducible exact RetQ.quiet (bits_any _ _ _ a.drop _ ((I3.out.drewN _).drewN _) HA.out.d))))
    go_wp2_with fail
    obtain ⟨wq, hwq⟩ : ∃ z9 : World, z9 = w0.drewN nq := ⟨_, rfl⟩
    have hbq : Below w0.heap.size w0 wq := by rw [hwq]; exact below_drewN _ _
    have HBq := Lib.hid (below_next HB0.out hbq)
    have J2 := Lib.hid (I2.out.keep hbq)
    have J3 := Lib.hid (I3.out.keep hbq)
    replace k2 := keepBox hbq k2
    replace k3 := keepBox hbq k3
    have kq := (cell_lt k3).1
    rw [← hwq]
    clear hwq hbq k0 k1 k4 I0 I1 I2 I3 HB0
    go_quiet ((first | (go_at_call 17; with_reducible exact RetQ.quiet (bits_any _ _ _ a.add _ (J2.out.drewN _) HA.out.p)) | (go_at_call 17; with_reducible exact RetQ.quiet (bits_any _ _ _ a.drop _ (J3.out.drewN _) HA.out.d))))
    go_wp2_with fail
    go_ret2
    exact ⟨rfl, below_next HBq.out (below_drewN _ _)⟩
  · cases h
end Go.Proofs.Ytlfgcblijfflfaa
