/- Contract of cnf.Text. (Printed by wip/tools/textown.py.) -/
import Derived.Test.YtabjbpkojbdgaaaGreatDoorCnfB
import Derived.Test.YtabjbpkojbdgaaaGreatDoorTextKit
import Derived.Test.YtabjbpkojbdgaaaGreatDoorTail
namespace Go.Proofs.YtabjbpkojbdgaaaGreatDoor
open Go.RowKit
set_option linter.unusedSimpArgs false
set_option linter.unusedVariables false

set_option maxHeartbeats 4000000 in
set_option maxRecDepth 100000 in
theorem text_ok (A : Option Addr) (n c : Nat) (xss : List (List Int)) (vars : Int) (w : World) (h : Grid w A n c xss) (hvi : I64 vars) (hck : Hid (checkC vars xss = (0, 0))) (htab : Lib.TabIs Tryz.prog w "internal/strconv.uint64pow10" .u64 Lib.pow10Tab) (R : ByteArray) (hr : Hid (bsOf (textF vars xss) = R)) :
    Calls Tryz.prog 4 #[.agg #[.int .i64 vars, .slice A n c]] w (RetV (.tuple #[.string R, .agg #[.int .i64 0, .int .i64 0]]) w) := by
  have hbd := h.bd
  have hlen := h.len
  obtain ⟨hv0, hv, hn', hx⟩ := checkC_text hck.out
  have hn : n ≤ 400 := by omega
  have HL := Lib.hid hlen
  have HX := Lib.hid hx
  have HTab := Lib.hid htab
  have HHL := Lib.hid (headF_le hv0 hv hn)
  have HTL : Hid (∀ k, (headF vars n ++ (xss.take k).flatMap lineF).length ≤ 212060) := fun k => by have := text_take_le hv0 hv hx (by omega) k; rw [hlen] at this; exact this
  have hR2 : Hid (bsOf (headF vars n ++ (xss.take n).flatMap lineF) = R) := by have := hr.out; rw [← textF_all, hlen] at this; exact this
  obtain ⟨T0, hT0⟩ : ∃ T, Hid (bsOf (headF vars n) = T) := ⟨_, rfl⟩
  obtain ⟨s1, hs1⟩ : ∃ s, Hid (bsOf (Lib.itoa vars) = s) := ⟨_, rfl⟩
  obtain ⟨s2, hs2⟩ : ∃ s, Hid (bsOf (Lib.itoa (n : Int)) = s) := ⟨_, rfl⟩
  have l1 : s1.size ≤ 21 := by rw [← hs1.out, bsOf_size]; exact itoa_le _ (by omega) (by omega)
  have l2 : s2.size ≤ 21 := by rw [← hs2.out, bsOf_size]; exact itoa_le _ (by omega) (by omega)
  have hk := h.keep (below_alloc (below_new w (.cells #[.int .i64 vars, .slice A n c] 24)) (.cells #[.int .i64 0, .int .i64 0] 26))
  clear hx hr hlen hn' htab h
  go_enter Tryz.func4, Tryz.ntmps4
  go_wp2_with fail
  refine (check_own _ _ _ _ _ _ hk hvi _ _ hck).mono ?_
  rintro e w1 ⟨rfl, hb1⟩
  obtain ⟨hK1, hK2, B1, _⟩ := two_blks hb1
  have HK1 := Lib.hid hK1
  have HK2 := Lib.hid hK2
  have HB := Lib.hid B1
  have HG := Lib.hid (hk.keep hb1)
  clear hb1 hk hK1 hK2 B1
  go_wp2_with fail
  obtain ⟨W, hW⟩ : ∃ q : World, q = w1.alloc (.cells #[.int .i64 0, .int .i64 0] 26) := ⟨_, rfl⟩
  have hbw : Below w1.heap.size w1 W := by rw [hW]; exact below_new _ _
  have hsz : W.heap.size = w1.heap.size + 1 := by rw [hW]; simp
  obtain ⟨W2, hW2⟩ : ∃ q : World, q = W.alloc (.cells #[.pointer none, .slice none 0 0] 38) := ⟨_, rfl⟩
  have hst := BStr.new W
  have hb2 : Below W.heap.size W W2 := by rw [hW2]; exact below_new _ _
  rw [← hW2] at hst
  rw [← hW, ← hW2]
  have KK1 := Lib.hid (HK1.out.keep hbw)
  have KK2 := Lib.hid (HK2.out.keep hbw)
  have H := Lib.hid (HG.out.keep hbw)
  have HBW := Lib.hid (below_next HB.out hbw)
  have HB2 := Lib.hid (below_next HBW.out hb2)
  have HC2 := Lib.hid hb2
  obtain ⟨b0, hb0⟩ : ∃ q : Nat, w.heap.size = q := ⟨_, rfl⟩
  rw [hb0] at KK1 KK2 ⊢
  have HB0 := Lib.hid hb0
  obtain ⟨b, hbe⟩ : ∃ q : Nat, w1.heap.size + 1 = q := ⟨_, rfl⟩
  have hWb : Hid (W.heap.size = b) := by rw [hsz]; exact hbe
  have hbW : Hid (b ≤ W.heap.size) := Nat.le_of_eq hWb.out.symm
  rw [hWb.out] at hst
  have HS2 := Lib.hid hst
  (try rw [hbe])
  have cc : W.cell? ⟨b0, 0, none⟩ = some (.int .i64 vars) ∧ W.cell? ⟨b0, 1, none⟩ = some (.slice A n c) := by
    have q0 := KK1.out.cell 0
    have q1 := KK1.out.cell 1
    simp at q0 q1
    exact ⟨q0, q1⟩
  clear hW hW2 hbw hsz hst hb2 hb0 hbe HK1 HK2 HB HG
  obtain ⟨wd, hwd⟩ : ∃ q : World, q = W2.drew := ⟨_, rfl⟩
  have hbd : Below W2.heap.size W2 wd := by rw [hwd]; exact below_drewN _ 1
  have HBwd := Lib.hid (below_next HB2.out hbd)
  have HCwd := Lib.hid (below_next HC2.out hbd)
  have HSwd := Lib.hid (HS2.out.keep hbd)
  have hS : wd.cell? ⟨b0, 0, none⟩ = some (.int .i64 vars) ∧ wd.cell? ⟨b0, 1, none⟩ = some (.slice A n c) := ⟨keepBox HCwd.out cc.1, keepBox HCwd.out cc.2⟩
  have z1 := (cell_lt hS.1).1
  have z2 := (cell_lt hS.2).1
  clear hbd HB2 HC2 HS2
  refine wp_region_tail (fun w' => w'.cell? ⟨b0, 0, none⟩ = some (.int .i64 vars) ∧ w'.cell? ⟨b0, 1, none⟩ = some (.slice A n c)) [] (by kernel_rfl) ?_
  change wpAnyT _ _ _ _ _ _ _ _ _ W2.drew
  rw [← hwd]
  clear hwd
  refine take0 (i := 0) (oi := _) (v := ?_) rfl (by kernel_rfl) (by kernel_rfl) (by kernel_rfl) (fun _ _ _ h => h) rfl (Or.inl ⟨by rfl, ?_⟩) (fun _ => hS) ?_
  rotate_left
  · intro w0; go_simp; with_reducible rfl
  (try simp only [Act.put, List.setIfInBounds_toArray, List.set_cons_zero, List.set_cons_succ])
  refine takeS (i := 1) (oi := _) (v := ?_) rfl (by kernel_rfl) (by kernel_rfl) (by kernel_rfl) (fun _ _ _ h => h) rfl (by kernel_rfl) (by kernel_rfl) (Or.inl ⟨by rfl, ?_⟩) hS ?_
  rotate_left
  · intro w0 hSw; (try dsimp only at hSw); go_simp; with_reducible rfl
  (try simp only [Act.put, List.setIfInBounds_toArray, List.set_cons_zero, List.set_cons_succ])
  refine take0 (i := 5) (oi := _) (v := ?_) rfl (by kernel_rfl) (by kernel_rfl) (by kernel_rfl) (fun _ _ _ h => h) rfl (Or.inl ⟨by rfl, ?_⟩) (fun _ => hS) ?_
  rotate_left
  · intro w0; go_simp; with_reducible rfl
  (try simp only [Act.put, List.setIfInBounds_toArray, List.set_cons_zero, List.set_cons_succ])
  refine takeS (i := 6) (oi := _) (v := ?_) rfl (by kernel_rfl) (by kernel_rfl) (by kernel_rfl) (fun _ _ _ h => h) rfl (by kernel_rfl) (by kernel_rfl) (Or.inl ⟨by rfl, ?_⟩) hS ?_
  rotate_left
  · intro w0 hSw; (try dsimp only at hSw); go_simp; with_reducible rfl
  (try simp only [Act.put, List.setIfInBounds_toArray, List.set_cons_zero, List.set_cons_succ])
  refine take0 (i := 7) (oi := _) (v := ?_) rfl (by kernel_rfl) (by kernel_rfl) (by kernel_rfl) (fun _ _ _ h => h) rfl (Or.inl ⟨by rfl, ?_⟩) (fun _ => hS) ?_
  rotate_left
  · intro w0; go_simp; with_reducible rfl
  (try simp only [Act.put, List.setIfInBounds_toArray, List.set_cons_zero, List.set_cons_succ])
  refine oneT (i := 2) (by kernel_rfl) rfl (by rfl) (fun Kq hK => ?_)
  go_simp
  refine (itoa_any w wd HTab HBwd.out vars (by omega) (by omega) s1 hs1).mono ?_
  rintro e w2 ⟨rfl, hb2⟩
  have hS2 : w2.cell? ⟨b0, 0, none⟩ = some (.int .i64 vars) ∧ w2.cell? ⟨b0, 1, none⟩ = some (.slice A n c) := ⟨keepBox hb2 hS.1, keepBox hb2 hS.2⟩
  have HSw2 := Lib.hid (HSwd.out.keep hb2)
  have HBw2 := Lib.hid (below_next HBwd.out hb2)
  have HCw2 := Lib.hid (below_next HCwd.out hb2)
  clear hb2 HSwd HBwd HCwd hS
  refine hK _ _ (fun _ => hS2) ?_
  clear hK
  (try simp only [Act.put, List.setIfInBounds_toArray, List.set_cons_zero, List.set_cons_succ])
  refine take0 (i := 3) (oi := _) (v := ?_) rfl (by kernel_rfl) (by kernel_rfl) (by kernel_rfl) (fun _ _ _ h => h) rfl (Or.inl ⟨by rfl, ?_⟩) (fun _ => hS2) ?_
  rotate_left
  · intro w0; go_simp; rw [if_neg (by omega)]
  (try simp only [Act.put, List.setIfInBounds_toArray, List.set_cons_zero, List.set_cons_succ])
  refine take0 (i := 4) (oi := _) (v := ?_) rfl (by kernel_rfl) (by kernel_rfl) (by kernel_rfl) (fun _ _ _ h => h) rfl (Or.inl ⟨by rfl, ?_⟩) (fun _ => hS2) ?_
  rotate_left
  · intro w0; go_simp; rw [if_neg (by omega)]
  (try simp only [Act.put, List.setIfInBounds_toArray, List.set_cons_zero, List.set_cons_succ])
  refine oneT (i := 8) (by kernel_rfl) rfl (by rfl) (fun Kq hK => ?_)
  go_simp
  refine (itoa_any w w2 HTab HBw2.out (n : Int) (by omega) (by omega) s2 hs2).mono ?_
  rintro e w3 ⟨rfl, hb2⟩
  have hS3 : w3.cell? ⟨b0, 0, none⟩ = some (.int .i64 vars) ∧ w3.cell? ⟨b0, 1, none⟩ = some (.slice A n c) := ⟨keepBox hb2 hS2.1, keepBox hb2 hS2.2⟩
  have HSw3 := Lib.hid (HSw2.out.keep hb2)
  have HBw3 := Lib.hid (below_next HBw2.out hb2)
  have HCw3 := Lib.hid (below_next HCw2.out hb2)
  clear hb2 HSw2 HBw2 HCw2 hS2
  refine hK _ _ (fun _ => hS3) ?_
  clear hK
  (try simp only [Act.put, List.setIfInBounds_toArray, List.set_cons_zero, List.set_cons_succ])
  refine take0 (i := 9) (oi := _) (v := ?_) rfl (by kernel_rfl) (by kernel_rfl) (by kernel_rfl) (fun _ _ _ h => h) rfl (Or.inl ⟨by rfl, ?_⟩) (fun _ => hS3) ?_
  rotate_left
  · intro w0; go_simp; rw [if_neg (by omega)]
  (try simp only [Act.put, List.setIfInBounds_toArray, List.set_cons_zero, List.set_cons_succ])
  refine take0 (i := 10) (oi := _) (v := ?_) rfl (by kernel_rfl) (by kernel_rfl) (by kernel_rfl) (fun _ _ _ h => h) rfl (Or.inl ⟨by rfl, ?_⟩) (fun _ => hS3) ?_
  rotate_left
  · intro w0; go_simp; rw [if_neg (by omega)]
  (try simp only [Act.put, List.setIfInBounds_toArray, List.set_cons_zero, List.set_cons_succ])
  have eT : (⟨#[112, 32, 99, 110, 102, 32]⟩ : ByteArray) ++ s1 ++ ⟨#[32]⟩ ++ s2 ++ ⟨#[10]⟩ = T0 := by
    rw [← hT0.out, ← hs1.out, ← hs2.out]
    show bsOf _ ++ _ ++ bsOf _ ++ _ ++ bsOf _ = _
    rw [bsOf_append, bsOf_append, bsOf_append, bsOf_append]
    rfl
  rw [eT]
  refine oneT (i := 11) (by kernel_rfl) rfl (by rfl) (fun Kq hK => ?_)
  go_simp
  refine (write_any b [] (headF vars n) T0 hT0 w3 HSw3.out (by have := HHL.out; simp; omega) (Nat.le_trans hbW.out HCw3.out.size)).mono ?_
  rintro e w4 ⟨rfl, hst, hb4⟩
  have HC4 := Lib.hid (HCw3.out.trans (show Below W.heap.size w3 w4 by rw [hWb.out]; exact hb4))
  have hS4 : w4.cell? ⟨b0, 0, none⟩ = some (.int .i64 vars) ∧ w4.cell? ⟨b0, 1, none⟩ = some (.slice A n c) := ⟨keepBox HC4.out cc.1, keepBox HC4.out cc.2⟩
  have HS4 := Lib.hid hst
  clear hst hb4 HCw3 HSw3 HBw3 hS3
  refine hK _ _ (fun _ => hS4) ?_
  clear hK
  (try simp only [Act.put, List.setIfInBounds_toArray, List.set_cons_zero, List.set_cons_succ])
  refine doneT (by kernel_rfl) ?_ _
  obtain ⟨e0, e1⟩ := hS4
  have z3 := (cell_lt e0).1
  have HS5 : Hid (BStr b (headF vars n) w4) := by have := HS4.out; rwa [List.nil_append] at this
  clear eT l1 l2 hs1 hs2 HS4 z1 z2
  go_wp2_with fail
  go_loopw [31] (fun s31 wr => ∃ i : Nat, i ≤ n ∧ s31 = .int .i64 i ∧ Hid (BStr b (headF vars n ++ (xss.take i).flatMap lineF) wr) ∧ Hid (Below W.heap.size W wr)) (fun i _ => n - (intOf i).toNat)
  case atStart => exact ⟨0, Nat.zero_le _, rfl, by have := HS5.out; show BStr _ _ _; simpa using this, HC4⟩
  case round =>
    obtain ⟨i, hi, rfl, hST, hBr⟩ := hrel
    have lT := HTL.out i
    by_cases hlt : i < n
    · obtain ⟨bk, off, A', n', c', xs, rfl, hbk, hcell0, hi2, hy⟩ := H.out.round hlt
      have hcell := keepBox hBr.out hcell0
      have z4 := (cell_lt hcell).1
      have u1 : (i : Int) < (n : Int) := by omega
      have u2 : (0 : Int) ≤ (i : Int) := by omega
      have hx := HX.out xs (List.mem_of_getElem? hy.out)
      have hln := hi2.len
      have hbd2 := hi2.bd
      have HI := Lib.hid hi2
      have HW2 : Hid (∀ k, (headF vars n ++ (xss.take i).flatMap lineF ++ (xs.take k).flatMap wordF).length ≤ 212600) := fun k => by
        have h2 := words_take_le hv hx.2 hx.1 k
        rw [List.length_append]; omega
      have HLit := Lib.hid hx.2
      have HLN := Lib.hid hln
      obtain ⟨P, hP⟩ : ∃ P, Hid (headF vars n ++ (xss.take i).flatMap lineF = P) := ⟨_, rfl⟩
      rw [hP.out] at hST HW2
      obtain ⟨wq, hwq⟩ : ∃ q : World, q = wr := ⟨_, rfl⟩
      rw [← hwq] at hcell z4 hST hBr ⊢
      clear hi2 hx hln lT hwq
      go_wp2_with fail
      go_loopw [37] (fun s37 wr => ∃ j : Nat, j ≤ n' ∧ s37 = .int .i64 j ∧ Hid (BStr b (P ++ (xs.take j).flatMap wordF) wr) ∧ Hid (Below W.heap.size W wr)) (fun j _ => n' - (intOf j).toNat)
      case atStart => exact ⟨0, Nat.zero_le _, rfl, by have := hST.out; show BStr _ _ _; simpa using this, hBr⟩
      case round =>
        obtain ⟨j, hj, rfl, hST2, hBr2⟩ := hrel
        by_cases hlt2 : j < n'
        · obtain ⟨b2, off2, x, rfl, hb2, hcl0, x1, x2, hy2⟩ := HI.out.round hlt2
          have hcl := keepBox hBr2.out hcl0
          have z5 := (cell_lt hcl).1
          have hxx := HLit.out.1 x (List.mem_of_getElem? hy2.out)
          have u3 : (j : Int) < (n' : Int) := by omega
          have u4 : (0 : Int) ≤ (j : Int) := by omega
          obtain ⟨s, hs⟩ : ∃ s, Hid (bsOf (Lib.itoa x) = s) := ⟨_, rfl⟩
          have l1 : s.size ≤ 21 := by rw [← hs.out, bsOf_size]; exact itoa_le _ (by omega) (by omega)
          have hwd : Hid (bsOf (wordF x) = s ++ ⟨#[32]⟩) := by rw [wordF, ← bsOf_append, hs.out]; exact rfl
          clear hcl0
          go_wp2_with fail
          refine (itoa_any w wr HTab (below_next HBW.out hBr2.out) x (by omega) (by omega) s hs).mono ?_
          rintro e w5 ⟨rfl, hb5⟩
          have hST5 := Lib.hid (hST2.out.keep hb5)
          have hBr5 := Lib.hid (below_next hBr2.out hb5)
          clear hb5 hST2 hBr2 hcl z5
          go_wp2_with fail
          refine (write_any b _ (wordF x) _ hwd w5 hST5.out (by have h1 := HW2.out j; have h2 := wordF_le x (by omega) (by omega); omega) (Nat.le_trans hbW.out hBr5.out.size)).mono ?_
          rintro e w6 ⟨rfl, hst6, hb6⟩
          have hBr6 := Lib.hid (hBr5.out.trans (show Below W.heap.size w5 w6 by rw [hWb.out]; exact hb6))
          have hST6 := Lib.hid hst6
          clear hst6 hb6 hST5 hBr5
          go_wp2_with fail
          go_roundw
          case rel =>
            refine ⟨j + 1, by omega, by go_num, ?_, hBr6⟩
            show BStr _ _ _
            rw [take_flat hy2.out, ← List.append_assoc]
            exact hST6.out
          case measure => simp [intOf] <;> omega
        · obtain rfl : j = n' := by omega
          have hST3 : Hid (BStr b (P ++ xs.flatMap wordF) wr) := by have := hST2.out; rw [List.take_of_length_le (l := xs) (by rw [HLN.out]; exact Nat.le_refl _)] at this; exact this
          have h48 : Hid (bsOf [48, 10] = ⟨#[48, 10]⟩) := rfl
          have hW3 := Lib.hid (HW2.out xs.length)
          clear hST2
          go_wp2_with fail
          refine (write_any b _ [48, 10] _ h48 wr hST3.out (by have h1 := hW3.out; rw [List.take_length] at h1; simp only [List.length_cons, List.length_nil]; omega) (Nat.le_trans hbW.out hBr2.out.size)).mono ?_
          rintro e w6 ⟨rfl, hst6, hb6⟩
          have hBr6 := Lib.hid (hBr2.out.trans (show Below W.heap.size wr w6 by rw [hWb.out]; exact hb6))
          have hST6 := Lib.hid hst6
          clear hst6 hb6 hST3 hBr2
          go_wp2_with fail
          go_roundw
          case rel =>
            refine ⟨i + 1, by omega, by go_num, ?_, hBr6⟩
            show BStr _ _ _
            rw [take_flat hy.out, ← List.append_assoc, hP.out, lineF, ← List.append_assoc]
            exact hST6.out
          case measure => simp [intOf] <;> omega
    · obtain rfl : i = n := by omega
      go_wp2_with fail
      refine (string_any b _ R hR2 wr hST.out (Nat.le_trans hbW.out hBr.out.size)).mono ?_
      rintro e w5 ⟨rfl, hb5⟩
      have hBr5 := hBr.out.trans (show Below W.heap.size wr w5 by rw [hWb.out]; exact hb5)
      have HK3 := Lib.hid (KK2.out.keep hBr5)
      have HB3 := Lib.hid (below_next HBW.out hBr5)
      have t0 := HK3.out.cell 0
      have t1 := HK3.out.cell 1
      have t2 := HK3.out.frozen 0
      have t3 := HK3.out.frozen 1
      simp at t0 t1
      obtain ⟨q0, q1⟩ := HK3.out.put2 (.int .i64 0) (.int .i64 0)
      have Q0 := Lib.hid q0
      have Q1 := Lib.hid q1
      have BF := Lib.hid (below_put2 HB3.out (g := b0 + 1) (by have := HB0.out; omega) (.int .i64 0) (.int .i64 0))
      clear q0 q1 hb5 hBr5 hST hBr
      go_wp2_with fail
      exact bodyPost_ret (v := .tuple #[.string R, .agg #[.int .i64 0, .int .i64 0]]) (by simp [results, Tryz.results4, go_sem, Q0.out, Q1.out]) rfl ⟨rfl, BF.out⟩

set_option maxHeartbeats 1000000 in
set_option maxRecDepth 100000 in
theorem text_no (A : Option Addr) (n c : Nat) (xss : List (List Int)) (vars : Int) (w : World) (h : Grid w A n c xss) (hv : I64 vars) (p1 p2 : Int) (hp : Hid (checkC vars xss = (p1, p2))) (hp1 : p1 ≠ 0) :
    Calls Tryz.prog 4 #[.agg #[.int .i64 vars, .slice A n c]] w (RetV (.tuple #[.string ⟨#[]⟩, .agg #[.int .i64 p1, .int .i64 p2]]) w) := by
  have hk := h.keep (below_alloc (below_new w (.cells #[.int .i64 vars, .slice A n c] 24)) (.cells #[.int .i64 0, .int .i64 0] 26))
  go_enter Tryz.func4, Tryz.ntmps4
  go_wp2_with fail
  refine (check_own _ _ _ _ _ _ hk hv _ _ hp).mono ?_
  rintro e w1 ⟨rfl, hb1⟩
  obtain ⟨hK1, hK2, B1, l1⟩ := two_blks hb1
  have c0 := hK1.cell 0
  have c1 := hK1.cell 1
  have e0 := hK2.cell 0
  have e1 := hK2.cell 1
  have f0 := hK2.frozen 0
  have f1 := hK2.frozen 1
  simp at c0 c1 e0 e1
  have l2 : w.heap.size < w1.heap.size := by omega
  have l3 : w.heap.size + 1 < w1.heap.size := by omega
  have HB := Lib.hid B1
  have d1 : (p1 != 0) = true := by simpa using hp1
  clear hb1 B1 hK1 hK2 hp1
  go_wp2_with fail
  go_region
  go_wp2_with fail
  refine bodyPost_ret (v := .tuple #[.string ⟨#[]⟩, .agg #[.int .i64 p1, .int .i64 p2]]) (by simp [results, Tryz.results4, go_sem, e0, e1, l3]) rfl ⟨rfl, ?_⟩
  exact ((below_put2 HB.out (g := w.heap.size + 1) (by omega) _ _).alloc (by simp; omega) _).drew
end Go.Proofs.YtabjbpkojbdgaaaGreatDoor
