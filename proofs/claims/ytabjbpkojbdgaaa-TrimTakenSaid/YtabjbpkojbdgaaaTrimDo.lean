/- Contract of trim.Do. (Printed by wip/tools/trimdo.py.) -/
import Derived.Test.YtabjbpkojbdgaaaTrimReq
import Derived.Test.YtabjbpkojbdgaaaTrimCore
import Derived.Test.YtabjbpkojbdgaaaStepOwn
import Derived.Test.YtabjbpkojbdgaaaSorted
namespace Go.Proofs.Ytabjbpkojbdgaaa
open Go.RowKit
set_option linter.unusedSimpArgs false

def RetTrim (l : List (List Int)) (w : World) (e : Ending) (w' : World) : Prop :=
  ∃ A n c, e = .returned (.tuple #[.slice A n c, .agg #[.int .i64 0, .int .i64 0]]) ∧ Learnts w' A n c l ∧ Below w.heap.size w w'
theorem cells9_one (s : Option Addr × Nat × Nat) : ∀ u ∈ cells9 s, u.oneCell' = true := by
  intro u hu
  simp only [cells9, List.mem_cons, List.not_mem_nil, or_false] at hu
  rcases hu with h | h | h | h | h | h | h | h | h <;> (rw [h]; rfl)
set_option maxHeartbeats 1000000 in
theorem trimDo_wrong (A B : Option Addr) (n c m d : Nat) (xss : List (List Int)) (rs : List (Int × List Int)) (vars : Int) (w : World) (h : Grid w A n c xss) (hv : I64 vars) (h' : Steps w B m d rs) (r1 r2 : Int) (hr : Hid (proofR vars xss rs = (r1, r2))) (h0 : r1 ≠ 0) :
    Calls Try.prog 30 #[.agg #[.int .i64 vars, .slice A n c], .slice B m d] w (RetV (.tuple #[.slice none 0 0, .agg #[.int .i64 r1, .int .i64 r2]]) w) := by
  have d1 : (r1 != 0) = true := by simpa using h0
  have hbW : Below w.heap.size w ((w.alloc (.cells #[.int .i64 vars, .slice A n c] 24)).alloc (.cells #[.int .i64 0, .int .i64 0] 28)) := (below_alloc (below_new _ _) _)
  have g := h.keep hbW
  have g' := h'.keep hbW
  have HBW := Lib.hid hbW
  clear hbW
  go_enter Try.func30, Try.ntmps30
  go_wp2_with fail
  refine (required_wrong _ _ _ _ _ _ xss rs _ _ g hv g' _ _ hr h0).mono ?_
  rintro e w1 ⟨rfl, hb1⟩
  obtain ⟨k3, k4, _, l1⟩ := two_blks hb1
  have t0 := k4.cell 0
  have t1 := k4.cell 1
  have tf0 := k4.frozen 0
  have tf1 := k4.frozen 1
  simp at t0 t1
  have HB := Lib.hid (below_next HBW.out hb1)
  have l3 : w.heap.size + 1 < w1.heap.size := by omega
  clear hb1 k3 k4 g g'
  go_wp2_with fail
  go_region
  go_wp2_with fail
  refine bodyPost_ret (v := .tuple #[.slice none 0 0, .agg #[.int .i64 r1, .int .i64 r2]]) (by simp [results, Try.results30, go_sem, t0, t1, l3]) rfl ⟨rfl, ?_⟩
  exact ((below_put2 HB.out (g := w.heap.size + 1) (by omega) _ _).alloc (by simp; omega) _).drew

set_option maxHeartbeats 4000000 in
set_option maxRecDepth 100000 in
theorem trimDo_own (A B : Option Addr) (n c m d : Nat) (xss : List (List Int)) (rs : List (Int × List Int)) (vars : Int) (w : World) (h : Grid w A n c xss) (hv : I64 vars) (h' : Steps w B m d rs) (hr : Hid (proofR vars xss rs = (0, 0))) (o : List Bool) (ho : Hid (wantedF vars xss rs = o)) (R : List (List Int)) (hR : Hid ((pickF o (learntF rs) n).map sortF = R)) :
    Calls Try.prog 30 #[.agg #[.int .i64 vars, .slice A n c], .slice B m d] w (RetTrim R w) := by
  have hbd := h.bd
  obtain ⟨_, hst0, _⟩ := proofR_parts hr.out
  obtain ⟨_, hck, hm3, hrs⟩ := stepsR_ok hst0
  obtain ⟨_, v0, v1, hn400, hrows⟩ := checkC_ok hck
  have hn4 : n ≤ 400 := by have := h.len; omega
  obtain ⟨row, hrow⟩ : ∃ row, Hid (xss ++ learntF rs = row) := ⟨_, rfl⟩
  have hrl : Hid (∀ x ∈ row, Lits vars x) := fun x hx => by
    rw [← hrow.out] at hx
    rcases List.mem_append.1 hx with hx | hx
    · exact (hrows x hx).2
    · unfold learntF at hx
      obtain ⟨r, hr1, rfl⟩ := List.mem_map.1 hx
      exact (hrs r (List.mem_filter.1 hr1).1).2
  have hrlen : Hid (row.length ≤ 3400 ∧ n ≤ row.length ∧ row.drop n = learntF rs ∧ o.length = row.length) := by
    have h1 : (learntF rs).length ≤ rs.length := by unfold learntF; rw [List.length_map]; exact List.length_filter_le _ _
    have h2 := h.len
    refine ⟨?_, ?_, ?_, ?_⟩
    · rw [← hrow.out, List.length_append]; omega
    · rw [← hrow.out, List.length_append]; omega
    · rw [← hrow.out, ← h2, List.drop_left']; rfl
    · rw [← ho.out, wantedF_len, hrow.out]
  have G := Lib.hid h
  have V := Lib.hid h'
  obtain ⟨i0, hi0, hz0, hz1, hz2⟩ := info_parts step_info
  clear h h' hst0 hck hn400 hrs hrows hm3
  go_enter Try.func30, Try.ntmps30
  go_wp2_with fail
  refine (required_own _ _ _ _ _ _ xss rs vars _ (G.out.keep (below_alloc (below_new _ _) _)) hv (V.out.keep (below_alloc (below_new _ _) _)) hr o ho).mono ?_
  rintro e w1 ⟨L, nl, cl, gb, rfl, hO, hbo, hb1⟩
  rw [hrow.out] at hO
  obtain ⟨K_c0, K_r0, B_w1, l_w1⟩ := two_blks hb1
  have HB := Lib.hid B_w1
  have K_c := Lib.hid K_c0
  have K_r := Lib.hid K_r0
  have HBO := Lib.hid hbo
  have HO := Lib.hid hO
  have hnl := Lib.hid hO.len
  have c0 := K_c.out.cell 0
  have c1 := K_c.out.cell 1
  simp at c0 c1
  have zc := K_c.out.lt
  obtain ⟨w2, hw2⟩ : ∃ w2 : World, w2 = w1.alloc (.cells #[.int .i64 0, .int .i64 0] 28) := ⟨_, rfl⟩
  have hb12 : Hid (Below w1.heap.size w1 w2) := by rw [hw2]; exact below_new _ _
  have hsz2 : Hid (w.heap.size + 2 ≤ w2.heap.size) := by have := hb12.out.size; show _ ≤ _; omega
  have hR0 : Hid ([] ++ (pickF o (row.drop n) n).map sortF = R) := by have := hR.out; rw [← hrlen.out.2.2.1] at this; exact this
  have hnl4 : nl ≤ 3400 := by have h1 := hnl.out; have h2 := hrlen.out.1; omega
  have hnnl : n ≤ nl := by have h1 := hnl.out; have h2 := hrlen.out.2.1; omega
  clear hb1 K_c0 K_r0 B_w1 hbo hO hR
  go_wp2_with fail
  rw [← hw2]
  clear hw2 c0 c1 zc
  go_loopw [9, 10] (fun s9 s10 wr => ∃ (k : Nat) (A9 : Option Addr) (n9 c9 : Nat) (nn : List (List Int)), k ≤ nl ∧ n ≤ k ∧ n9 ≤ k ∧ s9 = .slice A9 n9 c9 ∧ s10 = .int .i64 k ∧ Hid (OwnS wr w2.heap.size w2.heap.size A9 n9 c9 nn) ∧ Hid (nn ++ (pickF o (row.drop k) k).map sortF = R) ∧ Hid (Below w2.heap.size w2 wr)) (fun _ i _ => nl - (intOf i).toNat)
  case atStart => exact ⟨n, none, 0, 0, [], hnnl, Nat.le_refl _, Nat.zero_le _, rfl, rfl, OwnS.nil _ _ _, hR0, Below.refl _ _⟩
  case round =>
    clear hR0
    obtain ⟨k, A9, n9, c9, nn, hk, hnk, hn9, rfl, rfl, HS, hfl, hB⟩ := hrel
    by_cases hkn : k < nl
    · obtain ⟨b1, off1, q, hAe, hbb, hcell1, hqk⟩ := ((HBO.out.keep hb12.out).keep hB.out).round hkn
      obtain ⟨bL, A', n', c', xs, hLe, hgl, hgz, hcellL, _, hIx, _, hxk⟩ := ((HO.out.keep hb12.out).keep hB.out).round hkn
      have hst : Hid (nn ++ (if q = true then sortF xs :: (pickF o (row.drop (k + 1)) (k + 1)).map sortF else (pickF o (row.drop (k + 1)) (k + 1)).map sortF) = R) := by
        have := hfl.out
        rw [drop_cons_of hxk.out, pickF, List.getD_eq_getElem?_getD, hqk.out] at this
        cases q <;> simpa [Hid] using this
      have hxl : Hid (Lits vars xs) := hrl.out xs (List.mem_of_getElem? hxk.out)
      have z3 : (0 : Int) ≤ (k : Int) := by omega
      have z4 : (k : Int) < (nl : Int) := by omega
      have hwr := hB.out.size
      have HIX := Lib.hid hIx
      cases hAe
      rw [Nat.zero_add] at hcell1
      have HLE : Hid (L = some ⟨bL, 0, none⟩) := hLe
      subst hLe
      clear hfl hqk hxk hIx
      cases q
      · have hst2 : Hid (nn ++ (pickF o (row.drop (k + 1)) (k + 1)).map sortF = R) := by simpa [Hid] using hst.out
        clear hst
        go_wp2_with fail
        go_roundw
        case rel => exact ⟨k + 1, A9, n9, c9, nn, by omega, by omega, by omega, rfl, by go_num, HS, hst2, hB⟩
        case measure => simp [intOf] <;> omega
      · have hst2 : Hid ((nn ++ [sortF xs]) ++ (pickF o (row.drop (k + 1)) (k + 1)).map sortF = R) := by simpa [Hid] using hst.out
        have hXB : Hid (∀ x ∈ xs, -1000000 ≤ x ∧ x ≤ 1000000) := fun x hx => by have := hxl.out.1 x hx; omega
        have hn' : n' ≤ 1000000 := by have h1 := hxl.out.len_le v0; have h2 := HIX.out.len; omega
        clear hst
        go_wp2_with fail
        refine (sorted_any _ _ _ xs _ HIX.out hXB.out hn').mono ?_
        rintro e w3 ⟨S3, ns3, cs3, rfl, hO3, hb3⟩
        have HI3 := Lib.hid (hO3.ints (fun q hq => by have := hXB.out q (sortF_mem.1 hq); unfold I64; omega))
        have HA3 : Hid (Away 3 w3 w2.heap.size S3 ns3) := Away.own (hO3.mono hwr)
        have HS3 := Lib.hid (HS.out.keep hb3)
        have HB3 := Lib.hid (below_next hB.out hb3)
        have hz3 := HB3.out.size
        have HS4 := Lib.hid (HS3.out.keep (below_new w3 (.cells (cells9 (S3, ns3, cs3)).toArray 102)))
        obtain ⟨ss, hss, hs2, hs3⟩ := HS4.out
        have HSS := Lib.hid hss
        have HS5 := Lib.hid hs2
        have HS6 := Lib.hid hs3
        have KST := Lib.hid (Blk.new w3 102 (cells9 (S3, ns3, cs3)).toArray)
        clear hO3 hb3 hss hs2 hs3
        go_wp2_with (first
          | (at_builtin
             refine wpList_append_step _ rfl (.tmp 35) (.tmp 42) _ rfl w2.heap.size 102 i0 _ Try.underlying57 hi0 hz0 hz1 hz2 rfl A9 n9 c9 _ rfl HSS.out w3.heap.size (cells9 (S3, ns3, cs3)) rfl rfl (fun j u hj => (KST.out.cell j).trans (by rw [List.getElem?_toArray]; exact hj)) (cells9_one _) (by simp only [maxLen]; omega) (by omega) (by simp; omega) ?_
             intro L1 cL1 w9 hL1 hg1
             have HP : Hid (OwnS w9 w2.heap.size w2.heap.size L1 (n9 + 1) cL1 (nn ++ [sortF xs])) := OwnS.push1 ⟨ss, HSS.out, HS5.out, HS6.out⟩ HSS.out HS5.out HS6.out (Nat.le_refl _) (HI3.out.keep (below_new w3 (.cells (cells9 (S3, ns3, cs3)).toArray 102))) (HA3.out.keep (below_new w3 (.cells (cells9 (S3, ns3, cs3)).toArray 102))) hL1 hg1
             have HB9 : Hid (Below w2.heap.size w2 w9) := (below_alloc HB3.out (.cells (cells9 (S3, ns3, cs3)).toArray 102)).grown hg1 (by simp; omega) (fun k hk => (OwnC.base HSS.out hk).1)
             clear hL1 hg1))
        go_roundw
        case rel => exact ⟨k + 1, L1, n9 + 1, cL1, nn ++ [sortF xs], by omega, by omega, by omega, rfl, by go_num, HP, hst2, HB9⟩
        case measure => simp [intOf] <;> omega
    · obtain rfl : nn = R := by have := hfl.out; rw [List.drop_of_length_le (by rw [hnl.out]; omega), pickF] at this; simpa using this
      clear hfl
      have KR := K_r.out.keep (below_next hb12.out hB.out)
      have BR := Lib.hid (below_next HB.out (below_next hb12.out hB.out))
      have e0 := KR.cell 0
      have e1 := KR.cell 1
      have f0 := KR.frozen 0
      have f1 := KR.frozen 1
      simp at e0 e1
      have lr := KR.lt
      have SI : Hid ((wr.setCell ⟨w.heap.size + 1, 0, none⟩ (.int .i64 0)).setCell ⟨w.heap.size + 1, 1, none⟩ (.int .i64 0) = wr) := by rw [setCell_id KR rfl, setCell_id KR rfl]; rfl
      clear KR
      go_wp2_with fail
      exact bodyPost_ret (v := .tuple #[.slice A9 n9 c9, .agg #[.int .i64 0, .int .i64 0]]) (by rw [SI.out]; simp [results, Try.results30, go_sem, e0, e1]) rfl (by rw [SI.out]; exact ⟨A9, n9, c9, rfl, HS.out.learnts, BR.out⟩)
end Go.Proofs.Ytabjbpkojbdgaaa
