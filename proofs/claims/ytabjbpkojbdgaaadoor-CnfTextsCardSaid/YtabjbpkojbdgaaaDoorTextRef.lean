/- Contract of the reference's Text. (Printed by wip/tools/textref.py.) -/
import Derived.Test.YtabjbpkojbdgaaaDoorCnfB
import Derived.Test.YtabjbpkojbdgaaaDoorTextPlain
import Derived.Test.YtabjbpkojbdgaaaDoorTail
namespace Go.Proofs.YtabjbpkojbdgaaaDoor
open Go.RowKit
set_option linter.unusedSimpArgs false
set_option linter.unusedVariables false

set_option maxHeartbeats 4000000 in
set_option maxRecDepth 100000 in
theorem text_ref (A : Option Addr) (n c : Nat) (xss : List (List Int)) (vars : Int) (w : World) (h : Grid w A n c xss) (hv0 : 0 ≤ vars) (hv : vars ≤ 120) (hx : ∀ x ∈ xss, x.length ≤ 24 ∧ Lits vars x) (hn : n ≤ 400) (R : ByteArray) (hr : Hid (bsOf (textF vars xss) = R)) :
    Calls Tryd.prog 7 #[.agg #[.int .i64 vars, .slice A n c]] w (RetV (.string R) w) := by
  have hbd := h.bd
  have hlen := h.len
  have HL := Lib.hid hlen
  have HX := Lib.hid hx
  have HTL : Hid (∀ k, (headF vars n ++ (xss.take k).flatMap lineF).length ≤ 212060) := fun k => by have := text_take_le hv0 hv hx (by omega) k; rw [hlen] at this; exact this
  have hR2 : Hid (bsOf (headF vars n ++ (xss.take n).flatMap lineF) = R) := by have := hr.out; rw [← textF_all, hlen] at this; exact this
  clear hx hr hlen
  go_enter Tryd.func7, Tryd.ntmps7
  go_wp2_with fail
  obtain ⟨W, hW⟩ : ∃ q : World, q = w.alloc (.cells #[.int .i64 vars, .slice A n c] 24) := ⟨_, rfl⟩
  have hb : Below w.heap.size w W := by rw [hW]; exact below_new _ _
  have K : Hid (Blk W w.heap.size 24 #[.int .i64 vars, .slice A n c]) := by rw [hW]; exact Blk.new _ _ _
  have H := Lib.hid (h.keep hb)
  have HB := Lib.hid hb
  rw [← hW]
  obtain ⟨b0, hb0⟩ : ∃ q : Nat, w.heap.size = q := ⟨_, rfl⟩
  rw [hb0] at K ⊢
  have HB0 := Lib.hid hb0
  clear hW hb h hb0
  have c0 := K.out.cell 0
  have c1 := K.out.cell 1
  simp at c0 c1
  obtain ⟨s1, hs1⟩ : ∃ s, Hid (bsOf (Lib.itoa vars) = s) := ⟨_, rfl⟩
  obtain ⟨s2, hs2⟩ : ∃ s, Hid (bsOf (Lib.itoa (n : Int)) = s) := ⟨_, rfl⟩
  have l1 : s1.size ≤ 21 := by rw [← hs1.out, bsOf_size]; exact itoa_le _ (by omega) (by omega)
  have l2 : s2.size ≤ 21 := by rw [← hs2.out, bsOf_size]; exact itoa_le _ (by omega) (by omega)
  obtain ⟨wd, hwd⟩ : ∃ q : World, q = W.drew := ⟨_, rfl⟩
  have hbd : Below W.heap.size W wd := by rw [hwd]; exact below_drewN _ 1
  have HBD := Lib.hid (below_next HB.out hbd)
  have hS : wd.cell? ⟨b0, 0, none⟩ = some (.int .i64 vars) ∧ wd.cell? ⟨b0, 1, none⟩ = some (.slice A n c) := ⟨keepBox hbd c0, keepBox hbd c1⟩
  have H1 := Lib.hid (H.out.keep hbd)
  have z1 := (cell_lt hS.1).1
  have z2 := (cell_lt hS.2).1
  clear hbd HB c0 c1 H
  refine wp_region_tail (fun w' => w'.cell? ⟨b0, 0, none⟩ = some (.int .i64 vars) ∧ w'.cell? ⟨b0, 1, none⟩ = some (.slice A n c)) [] (by kernel_rfl) ?_
  change wpAnyT _ _ _ _ _ _ _ _ _ W.drew
  rw [← hwd]
  clear hwd
  refine take0 (i := 0) (oi := _) (v := ?_) rfl (by kernel_rfl) (by kernel_rfl) (by kernel_rfl) (fun _ _ _ h => h) rfl (Or.inl ⟨by rfl, ?_⟩) (fun _ => hS) ?_
  rotate_left
  · intro w0; go_simp; with_reducible rfl
  (try simp only [Act.put, List.setIfInBounds_toArray, List.set_cons_zero, List.set_cons_succ])
  refine takeS (i := 1) (oi := _) (v := ?_) rfl (by kernel_rfl) (by kernel_rfl) (by kernel_rfl) (fun _ _ _ h => h) rfl (by kernel_rfl) (by kernel_rfl) (Or.inl ⟨by rfl, ?_⟩) hS ?_
  rotate_left
  · intro w0 hSw; (try dsimp only at hSw); go_simp; with_reducible rfl
  (try simp only [Act.put, List.setIfInBounds_toArray, List.set_cons_zero, List.set_cons_succ])
  refine take0 (i := 5) (oi := _) (v := ?_) rfl (by kernel_rfl) (by kernel_rfl) (by kernel_rfl) (fun _ _ _ h => h) rfl (Or.inl ⟨by rfl, ?_⟩) (fun _ => hS) ?_
  rotate_left
  · intro w0; go_simp; with_reducible rfl
  (try simp only [Act.put, List.setIfInBounds_toArray, List.set_cons_zero, List.set_cons_succ])
  refine takeS (i := 6) (oi := _) (v := ?_) rfl (by kernel_rfl) (by kernel_rfl) (by kernel_rfl) (fun _ _ _ h => h) rfl (by kernel_rfl) (by kernel_rfl) (Or.inl ⟨by rfl, ?_⟩) hS ?_
  rotate_left
  · intro w0 hSw; (try dsimp only at hSw); go_simp; with_reducible rfl
  (try simp only [Act.put, List.setIfInBounds_toArray, List.set_cons_zero, List.set_cons_succ])
  refine take0 (i := 7) (oi := _) (v := ?_) rfl (by kernel_rfl) (by kernel_rfl) (by kernel_rfl) (fun _ _ _ h => h) rfl (Or.inl ⟨by rfl, ?_⟩) (fun _ => hS) ?_
  rotate_left
  · intro w0; go_simp; with_reducible rfl
  (try simp only [Act.put, List.setIfInBounds_toArray, List.set_cons_zero, List.set_cons_succ])
  refine oneT (i := 2) (by kernel_rfl) rfl (by rfl) (fun Kq hK => ?_)
  go_simp
  refine (digits_any vars wd s1 hs1 (by omega) (by omega)).mono ?_
  rintro e w2 ⟨rfl, m1, hm1⟩
  have hb2 : Below wd.heap.size wd w2 := by rw [hm1]; exact below_drewN _ _
  have hS2 : w2.cell? ⟨b0, 0, none⟩ = some (.int .i64 vars) ∧ w2.cell? ⟨b0, 1, none⟩ = some (.slice A n c) := ⟨keepBox hb2 hS.1, keepBox hb2 hS.2⟩
  have HB2 := Lib.hid (below_next HBD.out hb2)
  have H2 := Lib.hid (H1.out.keep hb2)
  clear hb2 hm1 HBD H1 hS
  refine hK _ _ (fun _ => hS2) ?_
  clear hK
  (try simp only [Act.put, List.setIfInBounds_toArray, List.set_cons_zero, List.set_cons_succ])
  refine take0 (i := 3) (oi := _) (v := ?_) rfl (by kernel_rfl) (by kernel_rfl) (by kernel_rfl) (fun _ _ _ h => h) rfl (Or.inl ⟨by rfl, ?_⟩) (fun _ => hS2) ?_
  rotate_left
  · intro w0; go_simp; rw [if_neg (by omega)]
  (try simp only [Act.put, List.setIfInBounds_toArray, List.set_cons_zero, List.set_cons_succ])
  refine take0 (i := 4) (oi := _) (v := ?_) rfl (by kernel_rfl) (by kernel_rfl) (by kernel_rfl) (fun _ _ _ h => h) rfl (Or.inl ⟨by rfl, ?_⟩) (fun _ => hS2) ?_
  rotate_left
  · intro w0; go_simp; rw [if_neg (by omega)]
  (try simp only [Act.put, List.setIfInBounds_toArray, List.set_cons_zero, List.set_cons_succ])
  refine oneT (i := 8) (by kernel_rfl) rfl (by rfl) (fun Kq hK => ?_)
  go_simp
  refine (digits_any (n : Int) w2 s2 hs2 (by omega) (by omega)).mono ?_
  rintro e w3 ⟨rfl, m2, hm2⟩
  have hb3 : Below w2.heap.size w2 w3 := by rw [hm2]; exact below_drewN _ _
  have hS3 : w3.cell? ⟨b0, 0, none⟩ = some (.int .i64 vars) ∧ w3.cell? ⟨b0, 1, none⟩ = some (.slice A n c) := ⟨keepBox hb3 hS2.1, keepBox hb3 hS2.2⟩
  have HB3 := Lib.hid (below_next HB2.out hb3)
  have H3 := Lib.hid (H2.out.keep hb3)
  clear hb3 hm2 HB2 H2 hS2
  refine hK _ _ (fun _ => hS3) ?_
  clear hK
  (try simp only [Act.put, List.setIfInBounds_toArray, List.set_cons_zero, List.set_cons_succ])
  refine take0 (i := 9) (oi := _) (v := ?_) rfl (by kernel_rfl) (by kernel_rfl) (by kernel_rfl) (fun _ _ _ h => h) rfl (Or.inl ⟨by rfl, ?_⟩) (fun _ => hS3) ?_
  rotate_left
  · intro w0; go_simp; rw [if_neg (by omega)]
  (try simp only [Act.put, List.setIfInBounds_toArray, List.set_cons_zero, List.set_cons_succ])
  refine take0 (i := 10) (oi := _) (v := ?_) rfl (by kernel_rfl) (by kernel_rfl) (by kernel_rfl) (fun _ _ _ h => h) rfl (Or.inl ⟨by rfl, ?_⟩) (fun _ => hS3) ?_
  rotate_left
  · intro w0; go_simp; rw [if_neg (by omega)]
  (try simp only [Act.put, List.setIfInBounds_toArray, List.set_cons_zero, List.set_cons_succ])
  refine take0 (i := 11) (oi := _) (v := ?_) rfl (by kernel_rfl) (by kernel_rfl) (by kernel_rfl) (fun _ _ _ h => h) rfl (Or.inl ⟨by rfl, ?_⟩) (fun _ => hS3) ?_
  rotate_left
  · intro w0; go_simp; with_reducible rfl
  (try simp only [Act.put, List.setIfInBounds_toArray, List.set_cons_zero, List.set_cons_succ])
  refine doneT (by kernel_rfl) ?_ _
  obtain ⟨T0, hT0⟩ : ∃ T, Hid (bsOf (headF vars n) = T) := ⟨_, rfl⟩
  have eT : (⟨#[112, 32, 99, 110, 102, 32]⟩ : ByteArray) ++ s1 ++ ⟨#[32]⟩ ++ s2 ++ ⟨#[10]⟩ = T0 := by
    rw [← hT0.out, ← hs1.out, ← hs2.out]
    show bsOf _ ++ _ ++ bsOf _ ++ _ ++ bsOf _ = _
    rw [bsOf_append, bsOf_append, bsOf_append, bsOf_append]
    rfl
  rw [eT]
  obtain ⟨e0, e1⟩ := hS3
  have z1 := (cell_lt e0).1
  clear eT l1 l2 hs1 hs2
  go_wp2_with fail
  go_loopw [3, 4] (fun s3 s4 wr => ∃ (i : Nat) (T : ByteArray), i ≤ n ∧ s3 = .string T ∧ s4 = .int .i64 i ∧ Hid (bsOf (headF vars n ++ (xss.take i).flatMap lineF) = T) ∧ Hid (Below w3.heap.size w3 wr)) (fun _ i _ => n - (intOf i).toNat)
  case atStart => exact ⟨0, T0, Nat.zero_le _, rfl, rfl, by show _ = _; simpa using hT0.out, Below.refl _ _⟩
  case round =>
    obtain ⟨i, T, hi, rfl, rfl, hT, hBr⟩ := hrel
    have lT : T.size ≤ 212060 := by rw [← hT.out, bsOf_size]; exact HTL.out i
    have f0 := keepBox hBr.out e0
    have f1 := keepBox hBr.out e1
    by_cases hlt : i < n
    · obtain ⟨b, off, A', n', c', xs, rfl, hb, hcell, hi2, hy⟩ := (H3.out.keep hBr.out).round hlt
      have u1 : (i : Int) < (n : Int) := by omega
      have u2 : (0 : Int) ≤ (i : Int) := by omega
      have hx := HX.out xs (List.mem_of_getElem? hy.out)
      have hln := hi2.len
      have hbd2 := hi2.bd
      have HI := Lib.hid hi2
      have HW2 : Hid (∀ k, (headF vars n ++ (xss.take i).flatMap lineF ++ (xs.take k).flatMap wordF).length ≤ 212600) := fun k => by
        have h1 := HTL.out i
        have h2 := words_take_le hv hx.2 hx.1 k
        rw [List.length_append]; omega
      have HLit := Lib.hid hx.2
      have HLN := Lib.hid hln
      clear hi2 hx hln
      obtain ⟨wq, hwq⟩ : ∃ q : World, q = wr := ⟨_, rfl⟩
      have HQ := hBr
      rw [← hwq] at HI f0 f1 hcell hb HQ ⊢
      clear hBr hwq
      go_wp2_with fail
      go_loopw [3, 5] (fun s3 s5 wr => ∃ (j : Nat) (T2 : ByteArray), j ≤ n' ∧ s3 = .string T2 ∧ s5 = .int .i64 j ∧ Hid (bsOf (headF vars n ++ (xss.take i).flatMap lineF ++ (xs.take j).flatMap wordF) = T2) ∧ Hid (Below wq.heap.size wq wr)) (fun _ j _ => n' - (intOf j).toNat)
      case atStart => exact ⟨0, T, Nat.zero_le _, rfl, rfl, by show _ = _; simpa using hT.out, Below.refl _ _⟩
      case round =>
        obtain ⟨j, T2, hj, rfl, rfl, hT2, hBr2⟩ := hrel
        have lT2 : T2.size ≤ 212600 := by rw [← hT2.out, bsOf_size]; exact HW2.out j
        have g0 := keepBox hBr2.out f0
        have g1 := keepBox hBr2.out f1
        have gc := keepBox hBr2.out hcell
        by_cases hlt2 : j < n'
        · obtain ⟨b2, off2, x, rfl, hb2, hcell2, x1, x2, hy2⟩ := (HI.out.keep hBr2.out).round hlt2
          have hxx := HLit.out.1 x (List.mem_of_getElem? hy2.out)
          have u3 : (j : Int) < (n' : Int) := by omega
          have u4 : (0 : Int) ≤ (j : Int) := by omega
          obtain ⟨s, hs⟩ : ∃ s, Hid (bsOf (Lib.itoa x) = s) := ⟨_, rfl⟩
          have l1 : s.size ≤ 21 := by rw [← hs.out, bsOf_size]; exact itoa_le _ (by omega) (by omega)
          go_wp2_with fail
          refine (digits_any x _ s hs (by omega) (by omega)).mono ?_
          rintro e w4 ⟨rfl, m4, hm4⟩
          have hb4 := Lib.hid (below_next hBr2.out (show Below wr.heap.size wr w4 by rw [hm4]; exact below_drewN _ _))
          clear hm4
          go_wp2_with fail
          go_roundw
          case rel =>
            refine ⟨j + 1, T2 ++ s ++ ⟨#[32]⟩, by omega, rfl, by go_num, ?_, hb4⟩
            show _ = _
            rw [take_flat hy2.out, ← List.append_assoc, ← bsOf_append, hT2.out, wordF, ← bsOf_append, hs.out, ByteArray.append_assoc]
            rfl
          case measure => simp [intOf] <;> omega
        · obtain rfl : j = n' := by omega
          have hB5 := Lib.hid (below_next HQ.out hBr2.out)
          have hT3 : Hid (bsOf (headF vars n ++ (xss.take i).flatMap lineF ++ xs.flatMap wordF) = T2) := by have := hT2.out; rw [List.take_of_length_le (l := xs) (by rw [HLN.out]; exact Nat.le_refl _)] at this; exact this
          clear hT2 hBr2
          go_wp2_with fail
          go_roundw
          case rel =>
            refine ⟨i + 1, T2 ++ ⟨#[48, 10]⟩, by omega, rfl, by go_num, ?_, hB5⟩
            show _ = _
            rw [take_flat hy.out, ← List.append_assoc, lineF, ← List.append_assoc, ← bsOf_append, hT3.out]
            rfl
          case measure => simp [intOf] <;> omega
    · obtain rfl : i = n := by omega
      have hTR : T = R := by rw [← hT.out, hR2.out]
      subst hTR
      have hB5 := Lib.hid (below_next HB3.out hBr.out)
      clear hT hBr
      go_wp2_with fail
      go_ret
      exact ⟨rfl, hB5.out⟩
end Go.Proofs.YtabjbpkojbdgaaaDoor
