/- Contract of trim.Core. (Printed by wip/tools/trimcore.py.) -/
import Derived.Test.YtabjbpkojbdgaaaTrimReq
namespace Go.Proofs.Ytabjbpkojbdgaaa
open Go.RowKit
set_option linter.unusedSimpArgs false

/-- The places that are wanted, f of them from i on. -/
def coreI (W : List Bool) : Nat → Nat → List Int
  | 0, _ => []
  | f + 1, i => if W.getD i false = true then (i : Int) :: coreI W f (i + 1) else coreI W f (i + 1)
theorem wantedF_len {vars : Int} {xss : List (List Int)} {rs : List (Int × List Int)} : (wantedF vars xss rs).length = (xss ++ learntF rs).length := by
  unfold wantedF
  rw [wantF_len, List.length_set, List.length_replicate]
def RetCore (R : List Int) (w : World) (e : Ending) (w' : World) : Prop :=
  ∃ A n c, e = .returned (.tuple #[.slice A n c, .agg #[.int .i64 0, .int .i64 0]]) ∧ Ints w' A n c R ∧ Below w.heap.size w w'
set_option maxHeartbeats 1000000 in
theorem trimCore_wrong (A B : Option Addr) (n c m d : Nat) (xss : List (List Int)) (rs : List (Int × List Int)) (vars : Int) (w : World) (h : Grid w A n c xss) (hv : I64 vars) (h' : Steps w B m d rs) (r1 r2 : Int) (hr : Hid (proofR vars xss rs = (r1, r2))) (h0 : r1 ≠ 0) :
    Calls Try.prog 38 #[.agg #[.int .i64 vars, .slice A n c], .slice B m d] w (RetV (.tuple #[.slice none 0 0, .agg #[.int .i64 r1, .int .i64 r2]]) w) := by
  have d1 : (r1 != 0) = true := by simpa using h0
  have hbW : Below w.heap.size w ((w.alloc (.cells #[.int .i64 vars, .slice A n c] 24)).alloc (.cells #[.int .i64 0, .int .i64 0] 28)) := (below_alloc (below_new _ _) _)
  have g := h.keep hbW
  have g' := h'.keep hbW
  have HBW := Lib.hid hbW
  clear hbW
  go_enter Try.func38, Try.ntmps38
  go_wp2_with fail
  refine (required_wrong _ _ _ _ _ _ xss rs _ _ g hv g' _ _ hr h0).mono ?_
  rintro e w1 ⟨rfl, hb1⟩
  obtain ⟨k3, k4, _, l1⟩ := two_blks hb1
  have t0 := k4.cell 0
  have t1 := k4.cell 1
  have tf0 := k4.frozen 0
  have tf1 := k4.frozen 1
  simp at t0 t1
  have HB := Lib.hid (below_next HBW.out hb1)
  have l3 : w.heap.size + 1 < w1.heap.size := by omega
  clear hb1 k3 k4 g g'
  go_wp2_with fail
  go_region
  go_wp2_with fail
  refine bodyPost_ret (v := .tuple #[.slice none 0 0, .agg #[.int .i64 r1, .int .i64 r2]]) (by simp [results, Try.results38, go_sem, t0, t1, l3]) rfl ⟨rfl, ?_⟩
  exact ((below_put2 HB.out (g := w.heap.size + 1) (by omega) _ _).alloc (by simp; omega) _).drew

set_option maxHeartbeats 4000000 in
set_option maxRecDepth 100000 in
theorem trimCore_own (A B : Option Addr) (n c m d : Nat) (xss : List (List Int)) (rs : List (Int × List Int)) (vars : Int) (w : World) (h : Grid w A n c xss) (hv : I64 vars) (h' : Steps w B m d rs) (hr : Hid (proofR vars xss rs = (0, 0))) (o : List Bool) (ho : Hid (wantedF vars xss rs = o)) (C : List Int) (hC : Hid (coreI o n 0 = C)) :
    Calls Try.prog 38 #[.agg #[.int .i64 vars, .slice A n c], .slice B m d] w (RetCore C w) := by
  have hbd := h.bd
  obtain ⟨_, hst0, _⟩ := proofR_parts hr.out
  obtain ⟨_, hck, _, _⟩ := stepsR_ok hst0
  obtain ⟨_, _, _, hn400, _⟩ := checkC_ok hck
  have hn4 : n ≤ 400 := by have := h.len; omega
  have hol : Hid (n ≤ o.length) := by show _ ≤ _; rw [← ho.out, wantedF_len, List.length_append, h.len]; omega
  have G := Lib.hid h
  have V := Lib.hid h'
  obtain ⟨i0, hi0, hz0, hz1, hz2⟩ := info_parts int_info
  clear h h' hst0 hck hn400
  go_enter Try.func38, Try.ntmps38
  go_wp2_with fail
  refine (required_own _ _ _ _ _ _ xss rs vars _ (G.out.keep (below_alloc (below_new _ _) _)) hv (V.out.keep (below_alloc (below_new _ _) _)) hr o ho).mono ?_
  rintro e w1 ⟨L, nl, cl, gb, rfl, hO, hbo, hb1⟩
  obtain ⟨K_c0, K_r0, B_w1, l_w1⟩ := two_blks hb1
  have HB := Lib.hid B_w1
  have K_c := Lib.hid K_c0
  have K_r := Lib.hid K_r0
  have HBO := Lib.hid hbo
  have hnl : Hid (nl = o.length) := hbo.len.symm
  have c0 := K_c.out.cell 0
  have c1 := K_c.out.cell 1
  simp at c0 c1
  have zc := K_c.out.lt
  obtain ⟨w2, hw2⟩ : ∃ w2 : World, w2 = w1.alloc (.cells #[.int .i64 0, .int .i64 0] 28) := ⟨_, rfl⟩
  have hb12 : Hid (Below w1.heap.size w1 w2) := by rw [hw2]; exact below_new _ _
  have hsz2 : Hid (w.heap.size + 2 ≤ w2.heap.size) := by have := hb12.out.size; show _ ≤ _; omega
  have hC0 : Hid ([] ++ coreI o (n - 0) 0 = C) := hC
  clear hb1 K_c0 K_r0 B_w1 hbo hO hC
  go_wp2_with fail
  rw [← hw2]
  clear hw2 c0 c1 zc
  go_loopw [9, 25] (fun s9 s25 wr => ∃ (k : Nat) (A9 : Option Addr) (n9 c9 : Nat) (nn : List Int), k ≤ n ∧ n9 ≤ k ∧ s9 = .slice A9 n9 c9 ∧ s25 = .int .i64 k ∧ Hid (Own 3 wr w2.heap.size A9 n9 c9 (nn.map (Value.int .i64))) ∧ Hid (∀ x ∈ nn, 0 ≤ x ∧ x ≤ 1000000) ∧ Hid (nn ++ coreI o (n - k) k = C) ∧ Hid (Below w2.heap.size w2 wr)) (fun _ i _ => n - (intOf i).toNat)
  case atStart => exact ⟨0, none, 0, 0, [], Nat.zero_le _, Nat.le_refl _, rfl, rfl, Own.nil _ _ _, by simp [Hid], hC0, Below.refl _ _⟩
  case round =>
    clear hC0
    obtain ⟨k, A9, n9, c9, nn, hk, hn9, rfl, rfl, HO, hN, hfl, hB⟩ := hrel
    by_cases hkn : k < n
    · have hkl : k < nl := by have := hol.out; have := hnl.out; omega
      obtain ⟨b1, off1, q, hAe, hbb, hcell1, hqk⟩ := ((HBO.out.keep hb12.out).keep hB.out).round hkl
      have hst : Hid (nn ++ (if q = true then (k : Int) :: coreI o (n - (k + 1)) (k + 1) else coreI o (n - (k + 1)) (k + 1)) = C) := by
        have := hfl.out
        rw [show n - k = (n - (k + 1)) + 1 by omega, coreI, List.getD_eq_getElem?_getD, hqk.out] at this
        exact this
      have z3 : (0 : Int) ≤ (k : Int) := by omega
      have z4 : (k : Int) < (nl : Int) := by omega
      have hwr := hB.out.size
      cases hAe
      rw [Nat.zero_add] at hcell1
      clear hfl hqk
      cases q
      · have hst2 : Hid (nn ++ coreI o (n - (k + 1)) (k + 1) = C) := by simpa [Hid] using hst.out
        clear hst
        go_wp2_with fail
        go_roundw
        case rel => exact ⟨k + 1, A9, n9, c9, nn, by omega, by omega, rfl, by go_num, HO, hN, hst2, hB⟩
        case measure => simp [intOf] <;> omega
      · have hst2 : Hid (nn ++ (k : Int) :: coreI o (n - (k + 1)) (k + 1) = C) := by simpa [Hid] using hst.out
        have hS := ints_made wr 3 [(k : Int)] rfl (by simp [I64]; omega) (by simp [maxLen])
        clear hst
        go_wp2_with (first
          | (at_builtin
             refine wpList_append_sl _ rfl (.tmp 32) (.tmp 34) _ rfl w2.heap.size 3 i0 _ 8 Try.underlying25 hi0 hz0 hz1 hz2 rfl A9 n9 c9 _ rfl (HO.out.keep (below_new _ _)) (some ⟨wr.heap.size, 0, none⟩) 1 1 _ rfl hS.sl (ints_one _) (by simp only [maxLen]; omega) (by omega) (by simp; omega) ?_
             intro L1 cL1 w9 hL1 hg1 hat1
             have HL1 := Lib.hid hL1
             have HB9 : Hid (Below w2.heap.size w2 w9) := below_grown (below_alloc hB.out (.cells #[.int .i64 (k : Int)] 3)) (HO.out.keep (below_new wr (.cells #[.int .i64 (k : Int)] 3))) (Nat.le_refl _) hg1
             clear hL1 hg1 hat1))
        go_roundw
        case rel =>
          refine ⟨k + 1, L1, n9 + 1, cL1, nn ++ [(k : Int)], by omega, by omega, rfl, by go_num, by rw [Hid, List.map_append]; exact HL1.out, ?_, by have := hst2.out; simpa [Hid] using this, HB9⟩
          intro q hq
          rcases List.mem_append.1 hq with hq | hq
          · exact hN.out q hq
          · simp at hq; subst hq; omega
        case measure => simp [intOf] <;> omega
    · obtain rfl : nn = C := by have := hfl.out; rw [show n - k = 0 by omega, coreI] at this; simpa using this
      clear hfl
      have KR := K_r.out.keep (below_next hb12.out hB.out)
      have BR := Lib.hid (below_next HB.out (below_next hb12.out hB.out))
      have hsz3 : w.heap.size + 1 < wr.heap.size := KR.lt
      have cK_r_0 := KR.cell 0
      have cK_r_1 := KR.cell 1
      simp at cK_r_0 cK_r_1
      obtain ⟨q0, q1⟩ := KR.put2 (.int .i64 0) (.int .i64 0)
      have Q0 := Lib.hid q0
      have Q1 := Lib.hid q1
      have fK_r_0 := KR.frozen 0
      have fK_r_1 := KR.frozen 1
      have hne : blockOf A9 = none ∨ blockOf A9 ≠ some (w.heap.size + 1) := HO.out.geb (by have := hsz2.out; omega)
      have HNI : ∀ x ∈ nn, I64 x := fun x hx => by have := hN.out x hx; unfold I64; omega
      have IR := Lib.hid (((HO.out.kept (grown_setCell _ ⟨w.heap.size + 1, 0, none⟩ (.int .i64 0)) hne).kept (grown_setCell _ ⟨w.heap.size + 1, 1, none⟩ (.int .i64 0)) hne).ints HNI)
      clear q0 q1 KR hne
      go_wp2_with fail
      exact bodyPost_ret (v := .tuple #[.slice A9 n9 c9, .agg #[.int .i64 0, .int .i64 0]]) (by simp [results, Try.results38, go_sem, Q0.out, Q1.out]) rfl ⟨A9, n9, c9, rfl, IR.out, below_put2 BR.out (g := w.heap.size + 1) (by omega) _ _⟩
end Go.Proofs.Ytabjbpkojbdgaaa
