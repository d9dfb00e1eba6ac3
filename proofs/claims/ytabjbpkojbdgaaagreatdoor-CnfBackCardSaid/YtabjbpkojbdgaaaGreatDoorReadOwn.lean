/- Contract of cnf.Read. (Printed by wip/tools/readown.py.) -/
import Derived.Test.YtabjbpkojbdgaaaGreatDoorRdSt
import Derived.Test.YtabjbpkojbdgaaaGreatDoorReadLems
import Derived.Test.YtabjbpkojbdgaaaGreatDoorNumP
import Derived.Test.YtabjbpkojbdgaaaGreatDoorSlices
import Derived.Test.YtabjbpkojbdgaaaGreatDoorCnfB
import Derived.Test.YtabjbpkojbdgaaaGreatDoorTail
namespace Go.Proofs.YtabjbpkojbdgaaaGreatDoor
open Go.RowKit
set_option linter.unusedSimpArgs false
set_option linter.unusedVariables false

theorem row_info_o : (Tryz.prog.info? 44).map (fun i => (i.zero, i.size, i.bytes)) = some (some (.slice none 0 0), 1, 24) := by kernel_rfl
theorem own_apart {e e' : TypeId} {w w' : World} {b n c n' c' : Nat} {N A : Option Addr} {xs ys : List Value} (hN : Own e w b N n c xs) (hA : Own e' w' w.heap.size A n' c' ys) : blockOf A = none ∨ blockOf A ≠ blockOf N := by
  rcases hN.form with ⟨rfl, _⟩ | ⟨g, cur, rfl, _, hh, _⟩
  · cases A <;> simp [blockOf]
  · exact hA.geb (heap_lt hh)
/-- strings.Split at a newline. -/
theorem split_any (s : ByteArray) (w : World) (hs : s.size ≤ 1000000) (hE : Errs w) : Calls Tryz.prog 12 #[.string s, .string ⟨#[10]⟩] w fun e w' =>
    ∃ (g n : Nat) (ls : List ByteArray), e = .returned (.slice (some ⟨g, 0, none⟩) n n) ∧ Own 9 w' w.heap.size (some ⟨g, 0, none⟩) n n (ls.map Value.string) ∧ ls.map (·.data.toList) = linesF s.data.toList ∧ Below w.heap.size w w' := by
  obtain ⟨m, hm⟩ := hE.most
  refine (Tryz.strings_Split s ⟨#[10]⟩ m w (by omega) hm (by decide)).mono ?_
  rintro e w' ⟨rfl, rfl⟩
  have hl := Lib.splitB_all ⟨#[10]⟩ (by decide) 0 _ s rfl
  have hL := split_lines s
  have hc : (Lib.splitB ⟨#[10]⟩ 0 (Lib.countB s ⟨#[10]⟩) s).length ≤ 1000001 := by
    have h1 := congrArg List.length hL
    rw [List.length_map] at h1
    have h2 := linesGo_count s.data.toList []
    rw [← size_list] at h2
    unfold linesF at h1
    omega
  have ho := own_new 9 w w.heap.size ((Lib.splitB ⟨#[10]⟩ 0 (Lib.countB s ⟨#[10]⟩) s).map Value.string) rfl (Nat.le_refl _) (by rw [List.length_map]; simp only [maxLen]; omega)
  rw [List.length_map, hl] at ho
  exact ⟨_, _, _, rfl, ho, hL, below_new _ _⟩

set_option maxHeartbeats 4000000 in
set_option maxRecDepth 100000 in
theorem read_own (s : ByteArray) (w : World) (hs : s.size ≤ maxLen) (hE0 : Errs w) (r : Int × List (List Int) × Int × Int) (hr : Hid (readF s.data.toList = r)) :
    Calls Tryz.prog 5 #[.string s] w (RetRead r w) := by
  have hE := hE0
  have hsz := Lib.hid (size_list s)
  unfold maxLen at hs
  by_cases h8 : 80000 < s.size
  · have u1 : (80000 : Int) < (s.size : Int) := by omega
    have hrr : r = (0, [], 2, 0) := by rw [← hr.out]; exact readF_long (by have := hsz.out; omega)
    subst hrr
    clear hr hsz
    go_enter Tryz.func5, Tryz.ntmps5
    go_wp2_with fail
    exact bodyPost_ret (v := .tuple #[.agg #[.int .i64 0, .slice none 0 0], .agg #[.int .i64 2, .int .i64 0]]) (by simp [results, Tryz.results5, go_sem]) rfl
      ⟨none, 0, 0, rfl, grid_nil _, below_alloc (below_new _ _) _⟩
  · obtain ⟨LS, hLS⟩ : ∃ z, Hid (linesF s.data.toList = z) := ⟨_, rfl⟩
    obtain ⟨R, hR⟩ : ∃ R, Hid (rd0.lines LS 0 = R) := ⟨_, rfl⟩
    have HRF : Hid (outF R = r) := by show _ = _; rw [← hr.out, readF_out (by have := hsz.out; omega), hLS.out, hR.out]
    have HLC : LS.length ≤ 80001 := by
      have h1 := linesGo_count s.data.toList []
      rw [← size_list, show linesGo [] s.data.toList = LS from hLS.out] at h1
      omega
    have HLZ : Hid (∀ y ∈ LS, y.length ≤ 80000) := fun y hy => by
      have h1 := linesGo_sizes s.data.toList [] y (by rw [show linesGo [] s.data.toList = LS from hLS.out]; exact hy)
      rw [← size_list] at h1
      simp at h1
      omega
    have HSTART := Lib.hid (RdSt.start w)
    have u1 : ¬ (80000 : Int) < (s.size : Int) := by omega
    obtain ⟨i0, hi0, hz0, hz1, hz2⟩ := info_parts int_info_n
    obtain ⟨j0, hj0, hy0, hy1, hy2⟩ := info_parts row_info_o
    have HEW := hE.keep HSTART.out.bl
    clear hr
    go_enter Tryz.func5, Tryz.ntmps5
    go_wp2_with fail
    refine (split_any s _ (by omega) HEW).mono ?_
    rintro e w0 ⟨gL, nL, ls, rfl, hol, hls, hb0⟩
    rw [hLS.out] at hls
    have HLS := Lib.hid hls
    have HLL : Hid (LS.length = nL) := by show _ = _; have := hol.len; rw [← hls]; simpa using this
    have hnL : nL ≤ 80001 := by have := HLL.out; omega
    have HST := Lib.hid (HSTART.out.keep hb0)
    obtain ⟨bL, hbL⟩ : ∃ z : Nat, (((w.alloc (.cells #[.int .i64 0, .slice none 0 0] 24)).alloc (.cells #[.int .i64 0, .int .i64 0] 26)).alloc (.cells #[.int .i64 0, .slice none 0 0] 24)).heap.size = z := ⟨_, rfl⟩
    rw [hbL] at hol
    have HOL0 := Lib.hid hol
    clear hol hls hb0 HSTART HEW hbL HLC hLS
    go_wp2_with fail
    go_loopw [5, 6, 7, 25] (fun t5 t6 t7 t25 wr => ∃ (i h k cO m cN : Nat) (O N : Option Addr) (hd : Bool) (vs mn : Int) (cls : List (List Int)) (now : List Int), i ≤ nL ∧ t5 = .slice N m cN ∧ t6 = .bool hd ∧ t7 = .int .i64 mn ∧ t25 = .int .i64 i ∧ k + m ≤ 80001 * i ∧ Hid (I64 mn) ∧ Hid (I64 vs) ∧ Hid (RdSt w wr h vs O k cO cls N m cN now) ∧ Hid (Own 9 wr bL (some ⟨gL, 0, none⟩) nL nL (ls.map Value.string)) ∧ Hid (Rd.lines ⟨hd, vs, mn, cls, now⟩ (LS.drop i) i = R)) (fun _ _ _ q _ => nL - (intOf q).toNat)
    case atStart => exact ⟨0, w.heap.size + 3, 0, 0, 0, 0, none, none, false, 0, 0, [], [], Nat.zero_le _, rfl, rfl, rfl, rfl, Nat.le_refl _, (by show I64 0; unfold I64; omega), (by show I64 0; unfold I64; omega), HST, HOL0, by show _ = _; exact hR.out⟩
    case round =>
      clear HST HOL0 hR
      obtain ⟨i, h, k, cO, m, cN, O, N, hd, vs, mn, cls, now, hi1, rfl, rfl, rfl, rfl, hkm, hmn, hvs, ST, HOL, HR⟩ := hrel
      by_cases hlt : i < nL
      · skip
        obtain ⟨gL0, uL, eL, _, hglL, hcL, _, huL⟩ := HOL.out.at_ hlt
        cases eL
        obtain ⟨x, rfl, hxi⟩ := word_of HLS.out huL.out
        have hx8 : x.size ≤ 80000 := by rw [size_list]; exact HLZ.out _ (List.mem_of_getElem? hxi)
        have HRC : Hid (Rd.lines ⟨hd, vs, mn, cls, now⟩ (x.data.toList :: LS.drop (i + 1)) i = R) := by
          have h1 := HR.out
          rw [drop_cons_of hxi] at h1
          exact h1
        obtain ⟨ws, hws⟩ : ∃ ws, Hid (wordsF x.data.toList = ws) := ⟨_, rfl⟩
        have HWZ : Hid (∀ y ∈ ws, y.length ≤ 80000) := fun y hy => by
          rw [← hws.out] at hy
          have h1 := wordsF_sizes hy
          rw [← size_list] at h1
          omega
        have hwl : ws.length ≤ 80000 := by
          have h1 := wordsF_len x.data.toList
          rw [hws.out, ← size_list] at h1
          omega
        have v2 : (i : Int) < (nL : Int) := by omega
        have v3 : (0 : Int) ≤ (i : Int) := by omega
        clear HR huL hxi
        go_wp2_with fail
        refine (fields_any x _ (by omega)).mono ?_
        rintro e w1 ⟨gW0, nW, ss, rfl, hOW, hWs, hb1⟩
        rw [hws.out] at hWs
        have HSS := Lib.hid hWs
        have HOW := Lib.hid hOW
        have HWL : Hid (ws.length = nW) := by show _ = _; have := hOW.len; rw [← hWs]; simpa using this
        have hnW : nW ≤ 80000 := by have := HWL.out; omega
        have ST1 := Lib.hid (ST.out.keep hb1)
        have HOL1 := Lib.hid (HOL.out.keep hb1)
        clear hOW hWs hb1 ST HOL hcL hglL
        by_cases h0 : nW = 0
        · have d0 : ((nW : Int) == 0) = true := by rw [h0]; rfl
          have hw0 : ws = [] := List.eq_nil_of_length_eq_zero (by have := HWL.out; omega)
          have HRN : Hid (Rd.lines ⟨hd, vs, mn, cls, now⟩ (LS.drop (i + 1)) (i + 1) = R) := by
            have h1 := HRC.out
            rw [lines_step (line_skip (Or.inl (by rw [hws.out, hw0])))] at h1
            exact h1
          clear HRC
          go_wp2_with fail
          go_roundw
          case rel => exact ⟨i + 1, h, k, cO, m, cN, O, N, hd, vs, mn, cls, now, by omega, rfl, rfl, rfl, by go_num, by omega, hmn, hvs, ST1, HOL1, HRN⟩
          case measure => simp [intOf] <;> omega
        · have d0 : ((nW : Int) == 0) = false := beq_eq_false_iff_ne.2 (by omega)
          have hlt0 : 0 < nW := by omega
          obtain ⟨gW1, u0, e0, _, hgl0, hcell0, _, hu0⟩ := HOW.out.at_ hlt0
          cases e0
          obtain ⟨s0, rfl, hw0⟩ := word_of HSS.out hu0.out
          have v40 : (0 : Int) < (nW : Int) := by omega
          by_cases hc9 : s0.data.toList = [99]
          · have d9 : (s0.toList == [99]) = true := by rw [ByteArray.toList_eq, hc9]; rfl
            have HRN : Hid (Rd.lines ⟨hd, vs, mn, cls, now⟩ (LS.drop (i + 1)) (i + 1) = R) := by
              have h1 := HRC.out
              rw [lines_step (line_skip (Or.inr (by rw [hws.out, List.head?_eq_getElem?, hw0, hc9])))] at h1
              exact h1
            clear HRC
            go_wp2_with fail
            go_roundw
            case rel => exact ⟨i + 1, h, k, cO, m, cN, O, N, hd, vs, mn, cls, now, by omega, rfl, rfl, rfl, by go_num, by omega, hmn, hvs, ST1, HOL1, HRN⟩
            case measure => simp [intOf] <;> omega
          · have d9 : (s0.toList == [99]) = false := by rw [ByteArray.toList_eq]; exact beq_eq_false_iff_ne.2 hc9
            have hsk : ¬ (ws = [] ∨ ws.head? = some [99]) := by
              rintro (e | e)
              · rw [e] at hw0; cases hw0
              · rw [List.head?_eq_getElem?, hw0] at e; exact hc9 (Option.some.inj e)
            clear hu0 hc9
            cases hd with
            | false =>
              by_cases h4 : nW = 4
              · subst h4
                have hlt1 : 1 < 4 := by omega
                have hlt2 : 2 < 4 := by omega
                have hlt3 : 3 < 4 := by omega
                obtain ⟨_, u1', e1', _, _, hc1, _, hu1⟩ := HOW.out.at_ hlt1
                cases e1'
                obtain ⟨s1, rfl, hw1⟩ := word_of HSS.out hu1.out
                have hl4 : ws.length = 4 := by have := HWL.out; omega
                by_cases hp : s0.data.toList = [112]
                · have dp : (s0.toList == [112]) = true := by rw [ByteArray.toList_eq, hp]; rfl
                  by_cases hc : s1.data.toList = [99, 110, 102]
                  · have dcn : (s1.toList == [99, 110, 102]) = true := by rw [ByteArray.toList_eq, hc]; rfl
                    obtain ⟨a, b, hform⟩ : ∃ a b, ws = [[112], [99, 110, 102], a, b] := head_form (ws := ws) (by rw [List.head?_eq_getElem?, hw0, hw1, hp, hc]; simp [hl4])
                    have hsd : (ss.drop 2).map (·.data.toList) = [a, b] := by rw [List.map_drop, HSS.out, hform]; rfl
                    obtain ⟨qn, Hqn⟩ : ∃ q, Hid (numsF ((ss.drop 2).map (·.data.toList)) = q) := ⟨_, rfl⟩
                    have HLH : Hid (Rd.line ⟨false, vs, mn, cls, now⟩ ws = Rd.told ⟨false, vs, mn, cls, now⟩ (numF a) (numF b)) := by show _ = _; rw [hform, line_head rfl]
                    have HQ2 : Hid (numsF [a, b] = qn) := by show _ = _; rw [← hsd]; exact Hqn.out
                    have HZD : Hid (∀ y ∈ ss.drop 2, y.size ≤ 1000000) := fun y hy => by
                      have := HWZ.out y.data.toList (by rw [← HSS.out]; exact List.mem_map_of_mem (List.mem_of_mem_drop hy))
                      rw [← size_list] at this
                      omega
                    have HSW : Hid (Sl w1 (some ⟨gW0, 2, none⟩) 2 2 ((ss.drop 2).map Value.string)) := by show Sl _ _ _ _ _; rw [List.map_drop]; exact HOW.out.sl.drop2 (by omega)
                    clear hform hw0 hw1 hu1 hsk hp hc hl4 hsd
                    go_wp2_with fail
                    obtain ⟨wb, hwb⟩ : ∃ z : World, z = w1.alloc (.cells #[.int .i64 1, .int .i64 i] 26) := ⟨_, rfl⟩
                    have hbb : Below w1.heap.size w1 wb := by rw [hwb]; exact below_new _ _
                    have KB : Hid (Blk wb w1.heap.size 26 #[.int .i64 1, .int .i64 i]) := by rw [hwb]; exact Blk.new _ _ _
                    have STB := Lib.hid (ST1.out.keep hbb)
                    have HOB := Lib.hid (HOL1.out.keep hbb)
                    have HSB := HSW.out.keep hbb
                    have HEB := hE.keep STB.out.bl
                    rw [← hwb]
                    obtain ⟨bB, hbB⟩ : ∃ z : Nat, w1.heap.size = z := ⟨_, rfl⟩
                    have hb3 : w.heap.size + 3 ≤ bB := by rw [← hbB]; exact Nat.le_trans ST1.out.lo ST1.out.hi
                    have nb0 : w.heap.size ≠ bB := by omega
                    have nb1 : w.heap.size + 1 ≠ bB := by omega
                    have nb2 : bB ≠ w.heap.size := by omega
                    have nb3 : bB ≠ w.heap.size + 1 := by omega
                    rw [hbB] at KB ⊢
                    clear hwb hbb hbB ST1 HOL1 HOW
                    refine (numbers_any (some ⟨gW0, 2, none⟩) 2 2 (ss.drop 2) wb HSB (by omega) HZD.out HEB qn Hqn).mono ?_
                    rintro e wn ⟨A, nA, cA, ns, rfl, hA, hqn, hnI, hbn⟩
                    have STN := Lib.hid (STB.out.keep hbn)
                    have HON := Lib.hid (HOB.out.keep hbn)
                    have KN := Lib.hid (KB.out.keep hbn)
                    have hap : blockOf A = none ∨ blockOf A ≠ blockOf N := own_apart STB.out.nw hA
                    have HA := Lib.hid hA
                    have kb0 := KN.out.cell 0
                    have kb1 := KN.out.cell 1
                    have kb4 := KN.out.lt
                    simp at kb0 kb1
                    clear HSB HEB hbn hA STB HOB KB KN
                    cases qn with
                    | none =>
                      have hbd : Rd.line ⟨false, vs, mn, cls, now⟩ ws = none := by
                        rw [HLH.out]
                        have h2 := HQ2.out
                        rw [numsF, numsF, numsF] at h2
                        cases ha : numF a with
                        | none => rfl
                        | some v =>
                          cases hb : numF b with
                          | none => rfl
                          | some kk => rw [ha, hb] at h2; cases h2
                      clear HLH HQ2
                      have hrr : r = (0, [], 1, (i : Int)) := outF_wrong HRF.out (by have h1 := HRC.out; rw [lines_wrong (by rw [hws.out, hbd])] at h1; exact h1)
                      subst hrr
                      clear HRC HRF
                      have rs0 := STN.out.rb.cell 0
                      have rs1 := STN.out.rb.cell 1
                      have rs2 := STN.out.rb.frozen 0
                      have rs3 := STN.out.rb.frozen 1
                      have rs4 := STN.out.rb.lt
                      have fs0 := STN.out.fb.cell 0
                      have fs1 := STN.out.fb.cell 1
                      have fs2 := STN.out.fb.frozen 0
                      have fs3 := STN.out.fb.frozen 1
                      have fs4 := STN.out.fb.lt
                      simp at rs0 rs1 fs0 fs1
                      go_wp2_with fail
                      go_region
                      all_goals go_wp2_with fail
                      all_goals
                        have FIN := STN.out.fin (.int .i64 0) (.slice none 0 0) (.int .i64 1) (.int .i64 i)
                        exact bodyPost_ret (v := .tuple #[.agg #[.int .i64 0, .slice none 0 0], .agg #[.int .i64 1, .int .i64 i]]) (by simp [results, Tryz.results5, go_sem, rs0, rs1, fs0, fs1, rs4, fs4]) rfl
                          ⟨none, 0, 0, rfl, grid_nil _, below_drew1 FIN.1⟩
                    | some ms =>
                      obtain rfl : ns = ms := hqn ms rfl
                      obtain ⟨v, kk, rfl, ha, hb⟩ : ∃ v kk, ns = [v, kk] ∧ numF a = some v ∧ numF b = some kk := by
                        have h2 := HQ2.out
                        rw [numsF, numsF, numsF] at h2
                        cases ha : numF a with
                        | none => rw [ha] at h2; cases h2
                        | some v =>
                          cases hb : numF b with
                          | none => rw [ha, hb] at h2; cases h2
                          | some kk => rw [ha, hb] at h2; injection h2 with h2; exact ⟨v, kk, h2.symm, rfl, rfl⟩
                      have HRN : Hid (Rd.lines ⟨true, v, kk, cls, now⟩ (LS.drop (i + 1)) (i + 1) = R) := by
                        have h1 := HRC.out
                        rw [lines_step (r' := ⟨true, v, kk, cls, now⟩) (by rw [hws.out, HLH.out, ha, hb]; rfl)] at h1
                        exact h1
                      have hb2 := numF_bd ha
                      have hb3 := numF_bd hb
                      have hnA : nA = 2 := by have := HA.out.len; simpa using this.symm
                      subst hnA
                      obtain ⟨gA, x0, rfl, _, hgA, hA0, _, hx0⟩ := HA.out.at_ (k := 0) (by omega)
                      obtain ⟨_, x1, e1, _, _, hA1, _, hx1⟩ := HA.out.at_ (k := 1) (by omega)
                      cases e1
                      have hx0' := hx0.out
                      have hx1' := hx1.out
                      simp at hx0' hx1'
                      subst hx0' hx1'
                      have STT := Lib.hid (STN.out.top v)
                      have HOT := Lib.hid (HON.out.kept (grown_setCell wn ⟨w.heap.size + 1 + 1, 0, none⟩ (.int .i64 v)) (Own.ne_typed HON.out (Typed.of_blk STN.out.ob) (by decide)))
                      have HAT := HA.out.kept (grown_setCell wn ⟨w.heap.size + 1 + 1, 0, none⟩ (.int .i64 v)) (Own.ne_typed HA.out (Typed.of_blk STN.out.ob) (by decide))
                      obtain ⟨_, y0, e0, _, _, hT0, _, hy0'⟩ := HAT.at_ (k := 0) (by omega)
                      obtain ⟨_, y1, e1, _, _, hT1, _, hy1'⟩ := HAT.at_ (k := 1) (by omega)
                      cases e0; cases e1
                      have hy0'' := hy0'.out
                      have hy1'' := hy1'.out
                      simp at hy0'' hy1''
                      subst hy0'' hy1''
                      have o0 := STN.out.ob.cell 0
                      have o2 := STN.out.ob.frozen 0
                      have o4 := STN.out.ob.lt
                      simp at o0
                      have hmn2 : Hid (I64 kk) := by show I64 kk; unfold I64; omega
                      have hvs2 : Hid (I64 v) := by show I64 v; unfold I64; omega
                      clear nb0 nb1 nb2 nb3 HRC HLH HQ2 Hqn hqn hnI ha hb hmn hvs HA HAT hap hx0 hx1 hy0' hy1' kb0 kb1 kb4 STN HON
                      go_wp2_with fail
                      have hS : wn.drew.cell? ⟨gA, 0, none⟩ = some (.int .i64 v) ∧ wn.drew.cell? ⟨gA, 1, none⟩ = some (.int .i64 kk) := ⟨keepBox (below_drewN wn 1) hA0, keepBox (below_drewN wn 1) hA1⟩
                      have STD := Lib.hid (STT.out.keep (below_drewN _ 1))
                      have HOD := Lib.hid (HOT.out.keep (below_drewN _ 1))
                      refine wp_region_tail (fun w' => w'.cell? ⟨gA, 0, none⟩ = some (.int .i64 v) ∧ w'.cell? ⟨gA, 1, none⟩ = some (.int .i64 kk)) [] (by kernel_rfl) ?_
                      refine take0 (i := 0) (oi := _) (v := ?_) rfl (by kernel_rfl) (by kernel_rfl) (by kernel_rfl) (fun _ _ _ h => h) rfl (Or.inl ⟨by rfl, ?_⟩) (fun _ => hS) ?_
                      rotate_left
                      · intro w0; go_simp; with_reducible rfl
                      (try simp only [Act.put, List.setIfInBounds_toArray, List.set_cons_zero, List.set_cons_succ])
                      refine take0 (i := 1) (oi := _) (v := ?_) rfl (by kernel_rfl) (by kernel_rfl) (by kernel_rfl) (fun _ _ _ h => h) rfl (Or.inl ⟨by rfl, ?_⟩) (fun _ => hS) ?_
                      rotate_left
                      · intro w0; go_simp; with_reducible rfl
                      (try simp only [Act.put, List.setIfInBounds_toArray, List.set_cons_zero, List.set_cons_succ])
                      refine takeS (i := 2) (oi := _) (v := ?_) rfl (by kernel_rfl) (by kernel_rfl) (by kernel_rfl) (fun _ _ _ h => h) rfl (by kernel_rfl) (by kernel_rfl) (Or.inl ⟨by rfl, ?_⟩) hS ?_
                      rotate_left
                      · intro w0 hSw; (try dsimp only at hSw); go_simp; with_reducible rfl
                      (try simp only [Act.put, List.setIfInBounds_toArray, List.set_cons_zero, List.set_cons_succ])
                      refine take0 (i := 3) (oi := _) (v := ?_) rfl (by kernel_rfl) (by kernel_rfl) (by kernel_rfl) (fun _ _ _ h => h) rfl (Or.inl ⟨by rfl, ?_⟩) (fun _ => hS) ?_
                      rotate_left
                      · intro w0; go_simp; with_reducible rfl
                      (try simp only [Act.put, List.setIfInBounds_toArray, List.set_cons_zero, List.set_cons_succ])
                      refine take0 (i := 4) (oi := _) (v := ?_) rfl (by kernel_rfl) (by kernel_rfl) (by kernel_rfl) (fun _ _ _ h => h) rfl (Or.inl ⟨by rfl, ?_⟩) (fun _ => hS) ?_
                      rotate_left
                      · intro w0; go_simp; with_reducible rfl
                      (try simp only [Act.put, List.setIfInBounds_toArray, List.set_cons_zero, List.set_cons_succ])
                      refine takeS (i := 5) (oi := _) (v := ?_) rfl (by kernel_rfl) (by kernel_rfl) (by kernel_rfl) (fun _ _ _ h => h) rfl (by kernel_rfl) (by kernel_rfl) (Or.inl ⟨by rfl, ?_⟩) hS ?_
                      rotate_left
                      · intro w0 hSw; (try dsimp only at hSw); go_simp; with_reducible rfl
                      (try simp only [Act.put, List.setIfInBounds_toArray, List.set_cons_zero, List.set_cons_succ])
                      refine take0 (i := 6) (oi := _) (v := ?_) rfl (by kernel_rfl) (by kernel_rfl) (by kernel_rfl) (fun _ _ _ h => h) rfl (Or.inl ⟨by rfl, ?_⟩) (fun _ => hS) ?_
                      rotate_left
                      · intro w0; go_simp; with_reducible rfl
                      (try simp only [Act.put, List.setIfInBounds_toArray, List.set_cons_zero, List.set_cons_succ])
                      refine take0 (i := 7) (oi := _) (v := ?_) rfl (by kernel_rfl) (by kernel_rfl) (by kernel_rfl) (fun _ _ _ h => h) rfl (Or.inl ⟨by rfl, ?_⟩) (fun _ => hS) ?_
                      rotate_left
                      · intro w0; go_simp; with_reducible rfl
                      (try simp only [Act.put, List.setIfInBounds_toArray, List.set_cons_zero, List.set_cons_succ])
                      refine oneT (i := 8) (by kernel_rfl) rfl (by rfl) (fun Kq hK => ?_)
                      go_simp
                      refine hK _ _ (fun _ => ?_) ?_
                      · exact ⟨keepBox (below_drewN _ 1) hT0, keepBox (below_drewN _ 1) hT1⟩
                      clear hK
                      (try simp only [Act.put, List.setIfInBounds_toArray, List.set_cons_zero, List.set_cons_succ])
                      refine take0 (i := 9) (oi := _) (v := ?_) rfl (by kernel_rfl) (by kernel_rfl) (by kernel_rfl) (fun _ _ _ h => h) rfl (Or.inl ⟨by rfl, ?_⟩) (fun _ => ⟨keepBox (below_drewN _ 1) hT0, keepBox (below_drewN _ 1) hT1⟩) ?_
                      rotate_left
                      · intro w0; go_simp; with_reducible rfl
                      (try simp only [Act.put, List.setIfInBounds_toArray, List.set_cons_zero, List.set_cons_succ])
                      refine doneT (by kernel_rfl) ?_ _
                      go_wp2_with fail
                      go_roundw
                      case rel => exact ⟨i + 1, h, k, cO, m, cN, O, N, true, v, kk, cls, now, by omega, rfl, rfl, rfl, by go_num, by omega, hmn2, hvs2, STD, HOD, HRN⟩
                      case measure => simp [intOf] <;> omega
                  · have dcn : (s1.toList == [99, 110, 102]) = false := by rw [ByteArray.toList_eq]; exact beq_eq_false_iff_ne.2 hc
                    have hbd : Rd.line ⟨false, vs, mn, cls, now⟩ ws = none := line_bad (fun e => hsk (e.imp id id)) rfl (Or.inr (Or.inr (by rw [hw1]; simpa using hc)))
                    have hrr : r = (0, [], 1, (i : Int)) := outF_wrong HRF.out (by have h1 := HRC.out; rw [lines_wrong (by rw [hws.out, hbd])] at h1; exact h1)
                    subst hrr
                    clear HRC HRF
                    have rs0 := ST1.out.rb.cell 0
                    have rs1 := ST1.out.rb.cell 1
                    have rs2 := ST1.out.rb.frozen 0
                    have rs3 := ST1.out.rb.frozen 1
                    have rs4 := ST1.out.rb.lt
                    have fs0 := ST1.out.fb.cell 0
                    have fs1 := ST1.out.fb.cell 1
                    have fs2 := ST1.out.fb.frozen 0
                    have fs3 := ST1.out.fb.frozen 1
                    have fs4 := ST1.out.fb.lt
                    simp at rs0 rs1 fs0 fs1
                    go_wp2_with fail
                    go_region
                    all_goals go_wp2_with fail
                    all_goals
                      have FIN := ST1.out.fin (.int .i64 0) (.slice none 0 0) (.int .i64 1) (.int .i64 i)
                      exact bodyPost_ret (v := .tuple #[.agg #[.int .i64 0, .slice none 0 0], .agg #[.int .i64 1, .int .i64 i]]) (by simp [results, Tryz.results5, go_sem, rs0, rs1, fs0, fs1, rs4, fs4]) rfl
                        ⟨none, 0, 0, rfl, grid_nil _, below_drew1 (below_alloc FIN.1 _)⟩
                · have dp : (s0.toList == [112]) = false := by rw [ByteArray.toList_eq]; exact beq_eq_false_iff_ne.2 hp
                  have hbd : Rd.line ⟨false, vs, mn, cls, now⟩ ws = none := line_bad (fun e => hsk (e.imp id id)) rfl (Or.inr (Or.inl (by rw [List.head?_eq_getElem?, hw0]; simpa using hp)))
                  have hrr : r = (0, [], 1, (i : Int)) := outF_wrong HRF.out (by have h1 := HRC.out; rw [lines_wrong (by rw [hws.out, hbd])] at h1; exact h1)
                  subst hrr
                  clear HRC HRF
                  have rs0 := ST1.out.rb.cell 0
                  have rs1 := ST1.out.rb.cell 1
                  have rs2 := ST1.out.rb.frozen 0
                  have rs3 := ST1.out.rb.frozen 1
                  have rs4 := ST1.out.rb.lt
                  have fs0 := ST1.out.fb.cell 0
                  have fs1 := ST1.out.fb.cell 1
                  have fs2 := ST1.out.fb.frozen 0
                  have fs3 := ST1.out.fb.frozen 1
                  have fs4 := ST1.out.fb.lt
                  simp at rs0 rs1 fs0 fs1
                  go_wp2_with fail
                  go_region
                  all_goals go_wp2_with fail
                  all_goals
                    have FIN := ST1.out.fin (.int .i64 0) (.slice none 0 0) (.int .i64 1) (.int .i64 i)
                    exact bodyPost_ret (v := .tuple #[.agg #[.int .i64 0, .slice none 0 0], .agg #[.int .i64 1, .int .i64 i]]) (by simp [results, Tryz.results5, go_sem, rs0, rs1, fs0, fs1, rs4, fs4]) rfl
                      ⟨none, 0, 0, rfl, grid_nil _, below_drew1 (below_alloc FIN.1 _)⟩
              · have d4 : ((nW : Int) != 4) = true := by rw [bne_iff_ne]; omega
                have hbd : Rd.line ⟨false, vs, mn, cls, now⟩ ws = none := line_bad (fun e => hsk (e.imp id id)) rfl (Or.inl (by have := HWL.out; omega))
                have hrr : r = (0, [], 1, (i : Int)) := outF_wrong HRF.out (by have h1 := HRC.out; rw [lines_wrong (by rw [hws.out, hbd])] at h1; exact h1)
                subst hrr
                clear HRC HRF
                have rs0 := ST1.out.rb.cell 0
                have rs1 := ST1.out.rb.cell 1
                have rs2 := ST1.out.rb.frozen 0
                have rs3 := ST1.out.rb.frozen 1
                have rs4 := ST1.out.rb.lt
                have fs0 := ST1.out.fb.cell 0
                have fs1 := ST1.out.fb.cell 1
                have fs2 := ST1.out.fb.frozen 0
                have fs3 := ST1.out.fb.frozen 1
                have fs4 := ST1.out.fb.lt
                simp at rs0 rs1 fs0 fs1
                go_wp2_with fail
                go_region
                all_goals go_wp2_with fail
                all_goals
                  have FIN := ST1.out.fin (.int .i64 0) (.slice none 0 0) (.int .i64 1) (.int .i64 i)
                  exact bodyPost_ret (v := .tuple #[.agg #[.int .i64 0, .slice none 0 0], .agg #[.int .i64 1, .int .i64 i]]) (by simp [results, Tryz.results5, go_sem, rs0, rs1, fs0, fs1, rs4, fs4]) rfl
                    ⟨none, 0, 0, rfl, grid_nil _, below_drew1 (below_alloc FIN.1 _)⟩
            | true =>
              clear hw0
              have HLI0 := Lib.hid (line_nums (r := ⟨true, vs, mn, cls, now⟩) (fun e => hsk (e.imp id id)) rfl)
              obtain ⟨qn, Hqn⟩ : ∃ q, Hid (numsF (ss.map (·.data.toList)) = q) := ⟨_, rfl⟩
              have HZD : Hid (∀ y ∈ ss, y.size ≤ 1000000) := fun y hy => by
                have := HWZ.out y.data.toList (by rw [← HSS.out]; exact List.mem_map_of_mem hy)
                rw [← size_list] at this
                omega
              have HSW : Hid (Sl w1 (some ⟨gW0, 0, none⟩) nW nW (ss.map Value.string)) := HOW.out.sl
              clear hsk
              go_wp2_with fail
              obtain ⟨wb, hwb⟩ : ∃ z : World, z = w1.alloc (.cells #[.int .i64 1, .int .i64 i] 26) := ⟨_, rfl⟩
              have hbb : Below w1.heap.size w1 wb := by rw [hwb]; exact below_new _ _
              have KB : Hid (Blk wb w1.heap.size 26 #[.int .i64 1, .int .i64 i]) := by rw [hwb]; exact Blk.new _ _ _
              have STB := Lib.hid (ST1.out.keep hbb)
              have HOB := Lib.hid (HOL1.out.keep hbb)
              have HSB := HSW.out.keep hbb
              have HEB := hE.keep STB.out.bl
              rw [← hwb]
              obtain ⟨bB, hbB⟩ : ∃ z : Nat, w1.heap.size = z := ⟨_, rfl⟩
              have hb3 : w.heap.size + 3 ≤ bB := by rw [← hbB]; exact Nat.le_trans ST1.out.lo ST1.out.hi
              have nb0 : w.heap.size ≠ bB := by omega
              have nb1 : w.heap.size + 1 ≠ bB := by omega
              have nb2 : bB ≠ w.heap.size := by omega
              have nb3 : bB ≠ w.heap.size + 1 := by omega
              rw [hbB] at KB ⊢
              clear hwb hbb hbB ST1 HOL1 HOW
              refine (numbers_any (some ⟨gW0, 0, none⟩) nW nW ss wb HSB (by omega) HZD.out HEB qn Hqn).mono ?_
              rintro e wn ⟨A, nA, cA, ns, rfl, hA, hqn, hnI, hbn⟩
              have STN := Lib.hid (STB.out.keep hbn)
              have HON := Lib.hid (HOB.out.keep hbn)
              have KN := Lib.hid (KB.out.keep hbn)
              have hap : blockOf A = none ∨ blockOf A ≠ blockOf N := own_apart STB.out.nw hA
              have HA := Lib.hid hA
              have kb0 := KN.out.cell 0
              have kb1 := KN.out.cell 1
              have kb4 := KN.out.lt
              simp at kb0 kb1
              clear HSB HEB hbn hA STB HOB KB KN
              cases qn with
              | none =>
                have hbd : Rd.line ⟨true, vs, mn, cls, now⟩ ws = none := by
                  have h2 := Hqn.out
                  rw [HSS.out] at h2
                  rw [HLI0.out, h2]
                  rfl
                clear HLI0
                have hrr : r = (0, [], 1, (i : Int)) := outF_wrong HRF.out (by have h1 := HRC.out; rw [lines_wrong (by rw [hws.out, hbd])] at h1; exact h1)
                subst hrr
                clear HRC HRF
                have rs0 := STN.out.rb.cell 0
                have rs1 := STN.out.rb.cell 1
                have rs2 := STN.out.rb.frozen 0
                have rs3 := STN.out.rb.frozen 1
                have rs4 := STN.out.rb.lt
                have fs0 := STN.out.fb.cell 0
                have fs1 := STN.out.fb.cell 1
                have fs2 := STN.out.fb.frozen 0
                have fs3 := STN.out.fb.frozen 1
                have fs4 := STN.out.fb.lt
                simp at rs0 rs1 fs0 fs1
                go_wp2_with fail
                go_region
                all_goals go_wp2_with fail
                all_goals
                  have FIN := STN.out.fin (.int .i64 0) (.slice none 0 0) (.int .i64 1) (.int .i64 i)
                  exact bodyPost_ret (v := .tuple #[.agg #[.int .i64 0, .slice none 0 0], .agg #[.int .i64 1, .int .i64 i]]) (by simp [results, Tryz.results5, go_sem, rs0, rs1, fs0, fs1, rs4, fs4]) rfl
                    ⟨none, 0, 0, rfl, grid_nil _, below_drew1 FIN.1⟩
              | some ms =>
                obtain rfl : ns = ms := hqn ms rfl
                obtain ⟨Fr, HFr⟩ : ∃ z, Hid (Rd.puts ⟨true, vs, mn, cls, now⟩ ns = z) := ⟨_, rfl⟩
                have HRN : Hid (Rd.lines Fr (LS.drop (i + 1)) (i + 1) = R) := by
                  have h1 := HRC.out
                  have h2 := Hqn.out
                  rw [HSS.out] at h2
                  rw [lines_step (r' := Fr) (by rw [hws.out, HLI0.out, h2, ← HFr.out]; rfl)] at h1
                  exact h1
                have hnl : nA = nW := by
                  have h1 := (numsF_len Hqn.out).1
                  have h2 := HA.out.len
                  have h3 := HWL.out
                  rw [HSS.out] at h1
                  rw [List.length_map] at h2
                  omega
                have HNB := Lib.hid (numsF_len Hqn.out).2
                have HF0 : Hid (Rd.puts ⟨true, vs, mn, cls, now⟩ (ns.drop 0) = Fr) := HFr.out
                have HNL : Hid (ns.length = nA) := by show _ = _; simpa using HA.out.len
                clear nb0 nb1 nb2 nb3 HRC HLI0 Hqn hqn HFr kb0 kb1 kb4
                go_wp2_with fail
                go_loopw [5, 86] (fun t5 t86 wr => ∃ (j h k cO m cN : Nat) (O N : Option Addr) (cls : List (List Int)) (now : List Int), j ≤ nA ∧ t5 = .slice N m cN ∧ t86 = .int .i64 j ∧ k + m ≤ 80001 * i + j ∧ Hid (RdSt w wr h vs O k cO cls N m cN now) ∧ Hid (Own 9 wr bL (some ⟨gL, 0, none⟩) nL nL (ls.map Value.string)) ∧ Hid (Own 3 wr wb.heap.size A nA cA (ns.map (Value.int .i64))) ∧ Hid (blockOf A = none ∨ blockOf A ≠ blockOf N) ∧ Hid (Rd.puts ⟨true, vs, mn, cls, now⟩ (ns.drop j) = Fr)) (fun _ q _ => nA - (intOf q).toNat)
                case atStart => exact ⟨0, h, k, cO, m, cN, O, N, cls, now, Nat.zero_le _, rfl, rfl, by omega, STN, HON, HA, hap, HF0⟩
                case round =>
                  clear STN HON HA hap HF0
                  obtain ⟨j, h, k, cO, m, cN, O, N, cls, now, hj, rfl, rfl, hkm, STQ, HOQ, HAQ, HAP, HFJ⟩ := hrel
                  obtain ⟨wq, hwq⟩ : ∃ z : World, z = wr := ⟨_, rfl⟩
                  subst hwq
                  have lo := STQ.out.lo
                  have hi := STQ.out.hi
                  by_cases hjn : j < nA
                  · obtain ⟨gA, uA, rfl, _, hgA, hcA, _, huA⟩ := HAQ.out.at_ hjn
                    have huA' := huA.out
                    rw [List.getElem?_map, Option.map_eq_some_iff] at huA'
                    obtain ⟨n, hnj, rfl⟩ := huA'
                    have hnb := HNB.out n (List.mem_of_getElem? hnj)
                    have HFN : Hid (Rd.puts (Rd.put ⟨true, vs, mn, cls, now⟩ n) (ns.drop (j + 1)) = Fr) := by
                      have h1 := HFJ.out
                      rw [drop_cons_of hnj, Rd.puts] at h1
                      exact h1
                    have v4 : (j : Int) < (nA : Int) := by omega
                    have v5 : (0 : Int) ≤ (j : Int) := by omega
                    clear HFJ huA hnj
                    by_cases hn0 : n = 0
                    · subst hn0
                      rw [Rd.put_zero] at HFN
                      obtain ⟨vsO, hO, hR⟩ := STQ.out.rows.keep (cutW_below STQ.out.hi)
                      have HO := Lib.hid (hO.keep (below_new wq (.cells #[.slice N m cN] 44)))
                      have HRo := Lib.hid (hR.keep (below_new wq (.cells #[.slice N m cN] 44)))
                      have STB := Lib.hid (STQ.out.keep (below_new wq (.cells #[.slice N m cN] 44)))
                      have HOB := Lib.hid (HOQ.out.keep (below_new wq (.cells #[.slice N m cN] 44)))
                      have HAB := Lib.hid (HAQ.out.keep (below_new wq (.cells #[.slice N m cN] 44)))
                      have o0 := STQ.out.ob.cell 0
                      have o1 := STQ.out.ob.cell 1
                      have o4 := STQ.out.ob.lt
                      simp at o0 o1
                      clear hO hR
                      go_wp2_with (first
                        | (at_builtin
                           refine wpList_append_sl _ rfl (.tmp 93) (.tmp 95) _ rfl (w.heap.size + 3) 44 j0 _ 24 Tryz.underlying22 hj0 hy0 hy1 hy2 rfl O k cO _ rfl HO.out (some ⟨wq.heap.size, 0, none⟩) 1 1 _ rfl (sl_one wq 44 (.slice N m cN) rfl) (by simp [Value.oneCell']) (by simp only [maxLen]; omega) (by omega) (by simp; omega) ?_
                           intro O2 cO2 w6 hO2 hg6 hat6
                           have ST6 := Lib.hid (STB.out.shut HO.out HRo.out hO2 hg6)
                           have ob6 := STB.out.ob.grownO HO.out hg6 (by omega)
                           have HO6 := Lib.hid ((HOB.out.kept hg6 (own_ne HOB.out HO.out (by decide))).kept (grown_setCell w6 ⟨w.heap.size + 1 + 1, 1, none⟩ (.slice O2 (k + 1) cO2)) (Own.ne_typed (HOB.out.kept hg6 (own_ne HOB.out HO.out (by decide))) (Typed.of_blk ob6) (by decide)))
                           have HA6 := Lib.hid ((HAB.out.kept hg6 (own_ne HAB.out HO.out (by decide))).kept (grown_setCell w6 ⟨w.heap.size + 1 + 1, 1, none⟩ (.slice O2 (k + 1) cO2)) (Own.ne_typed (HAB.out.kept hg6 (own_ne HAB.out HO.out (by decide))) (Typed.of_blk ob6) (by decide)))
                           have s1 := ob6.cell 1
                           have sf1 := ob6.frozen 1
                           have sl6 := ob6.lt
                           simp at s1
                           clear hO2 hg6 hat6 ob6))
                      go_roundw
                      case rel => exact ⟨j + 1, _, k + 1, cO2, 0, 0, O2, none, cls ++ [now], [], by omega, rfl, by go_num, by omega, ST6, HO6, HA6, Or.inr (by simp [blockOf]), HFN⟩
                      case measure => simp [intOf] <;> omega
                    · rw [Rd.put_lit _ hn0] at HFN
                      have d00 : (n == 0) = false := beq_eq_false_iff_ne.2 hn0
                      have hi64 : I64 n := by unfold I64; omega
                      have HNO := Lib.hid (STQ.out.nw.keep (below_new wq (.cells #[.int .i64 n] 3)))
                      have STB := Lib.hid (STQ.out.keep (below_new wq (.cells #[.int .i64 n] 3)))
                      have HOB := Lib.hid (HOQ.out.keep (below_new wq (.cells #[.int .i64 n] 3)))
                      have HAB := Lib.hid (HAQ.out.keep (below_new wq (.cells #[.int .i64 n] 3)))
                      have hlA := HAB.out.ltb (Nat.le_refl _)
                      have hS := ints_made wq 3 [n] rfl (by simpa using hi64) (by simp [maxLen])
                      clear STQ
                      go_wp2_with (first
                        | (at_builtin
                           refine wpList_append_sl _ rfl (.tmp 98) (.tmp 100) _ rfl h 3 i0 _ 8 Tryz.underlying44 hi0 hz0 hz1 hz2 rfl N m cN _ rfl HNO.out (some ⟨wq.heap.size, 0, none⟩) 1 1 _ rfl hS.sl (ints_one _) (by simp only [maxLen]; omega) (by omega) (by simp; omega) ?_
                           intro N2 cN2 w6 hN2 hg6 hat6
                           have ST6 := Lib.hid (STB.out.lit hi64 hN2 hg6)
                           have HO6 := Lib.hid (HOB.out.kept hg6 (own_ne HOB.out HNO.out (by decide)))
                           have HA6 := Lib.hid (HAB.out.kept hg6 HAP.out)
                           have HP6 : Hid (blockOf (some (⟨gA, 0, none⟩ : Addr)) = none ∨ blockOf (some (⟨gA, 0, none⟩ : Addr)) ≠ blockOf N2) := by
                             rcases hat6 with e | e
                             · rw [e]; exact HAP.out
                             · right; rw [e]; exact hlA
                           clear hN2 hg6 hat6))
                      go_roundw
                      case rel => exact ⟨j + 1, h, k, cO, m + 1, cN2, O, N2, cls, now ++ [n], by omega, rfl, by go_num, by omega, ST6, HO6, HA6, HP6, HFN⟩
                      case measure => simp [intOf] <;> omega
                  · have hF : Fr = ⟨true, vs, mn, cls, now⟩ := by
                      have h1 := HFJ.out
                      rw [List.drop_eq_nil_of_le (by have := HNL.out; omega)] at h1
                      exact h1.symm
                    subst hF
                    obtain rfl : j = nA := by omega
                    clear HFJ
                    go_wp2_with fail
                    go_roundw
                    case rel => exact ⟨i + 1, h, k, cO, m, cN, O, N, true, vs, mn, cls, now, by omega, rfl, rfl, rfl, by go_num, by omega, hmn, hvs, STQ, HOQ, HRN⟩
                    case measure => simp [intOf] <;> omega
      · skip
        have hRl : R = .inl ⟨hd, vs, mn, cls, now⟩ := by
          have h1 := HR.out
          rw [List.drop_eq_nil_of_le (by have := HLL.out; omega)] at h1
          exact h1.symm
        have HL := Lib.hid ST.out.len
        have v1 : ¬ (i : Int) < (nL : Int) := by omega
        clear HR HOL
        cases hd with
        | false =>
          have hrr : r = (0, [], 9, 0) := by rw [← HRF.out, hRl]; exact out_size (Or.inl rfl)
          subst hrr
          clear HRF hRl
          have rs0 := ST.out.rb.cell 0
          have rs1 := ST.out.rb.cell 1
          have rs2 := ST.out.rb.frozen 0
          have rs3 := ST.out.rb.frozen 1
          have rs4 := ST.out.rb.lt
          have fs0 := ST.out.fb.cell 0
          have fs1 := ST.out.fb.cell 1
          have fs2 := ST.out.fb.frozen 0
          have fs3 := ST.out.fb.frozen 1
          have fs4 := ST.out.fb.lt
          simp at rs0 rs1 fs0 fs1
          go_wp2_with fail
          exact bodyPost_ret (v := .tuple #[.agg #[.int .i64 0, .slice none 0 0], .agg #[.int .i64 9, .int .i64 0]]) (by simp [results, Tryz.results5, go_sem, rs0, rs1, fs0, fs1, rs4, fs4]) rfl
            ⟨none, 0, 0, rfl, grid_nil _, (ST.out.fin _ _ _ _).1⟩
        | true =>
          by_cases hm0 : m = 0
          · have dm : ¬ (0 : Int) < (m : Int) := by omega
            have hn0 : now = [] := List.eq_nil_of_length_eq_zero (by rw [HL.out.2]; exact hm0)
            have o0 := ST.out.ob.cell 0
            have o1 := ST.out.ob.cell 1
            have o4 := ST.out.ob.lt
            simp at o0 o1
            by_cases hmk : mn = k
            · have dk : ((k : Int) != mn) = false := by rw [hmk]; simp
              obtain ⟨r1, r2, hck⟩ : ∃ r1 r2, Hid (checkC vs cls = (r1, r2)) := ⟨_, _, rfl⟩
              have HMK : Hid (mn = (cls.length : Int)) := by show _ = _; rw [HL.out.1]; exact hmk
              clear hmk
              go_wp2_with fail
              refine (check_own O k cO cls vs wr ST.out.grid hvs.out r1 r2 hck).mono ?_
              rintro e w1 ⟨rfl, hb1⟩
              have ST1 := Lib.hid (ST.out.keep hb1)
              clear hb1 ST o0 o1 o4
              have o0 := ST1.out.ob.cell 0
              have o1 := ST1.out.ob.cell 1
              have o4 := ST1.out.ob.lt
              simp at o0 o1
              by_cases h0 : r1 = 0
              · subst h0
                have hr2 : r2 = 0 := by have := (checkC_ok (vars := vs) (xss := cls) (by rw [hck.out])).1; rw [hck.out] at this; simpa using this
                subst hr2
                have hrr : r = (vs, cls, 0, 0) := by rw [← HRF.out, hRl, hn0]; exact out_good HMK.out hck.out
                subst hrr
                clear HRF hRl
                have rs0 := ST1.out.rb.cell 0
                have rs1 := ST1.out.rb.cell 1
                have rs2 := ST1.out.rb.frozen 0
                have rs3 := ST1.out.rb.frozen 1
                have rs4 := ST1.out.rb.lt
                have fs0 := ST1.out.fb.cell 0
                have fs1 := ST1.out.fb.cell 1
                have fs2 := ST1.out.fb.frozen 0
                have fs3 := ST1.out.fb.frozen 1
                have fs4 := ST1.out.fb.lt
                simp at rs0 rs1 fs0 fs1
                go_wp2_with fail
                have FIN := ST1.out.fin (.int .i64 vs) (.slice O k cO) (.int .i64 0) (.int .i64 0)
                exact bodyPost_ret (v := .tuple #[.agg #[.int .i64 vs, .slice O k cO], .agg #[.int .i64 0, .int .i64 0]]) (by simp [results, Tryz.results5, go_sem, rs0, rs1, fs0, fs1, rs4, fs4]) rfl
                  ⟨O, k, cO, rfl, FIN.2.keep (below_new _ _), below_alloc FIN.1 _⟩
              · have dr : (r1 != 0) = true := by simpa using h0
                have hrr : r = (0, [], r1, r2) := by rw [← HRF.out, hRl, hn0]; exact out_check HMK.out hck.out h0
                subst hrr
                clear HRF hRl
                have rs0 := ST1.out.rb.cell 0
                have rs1 := ST1.out.rb.cell 1
                have rs2 := ST1.out.rb.frozen 0
                have rs3 := ST1.out.rb.frozen 1
                have rs4 := ST1.out.rb.lt
                have fs0 := ST1.out.fb.cell 0
                have fs1 := ST1.out.fb.cell 1
                have fs2 := ST1.out.fb.frozen 0
                have fs3 := ST1.out.fb.frozen 1
                have fs4 := ST1.out.fb.lt
                simp at rs0 rs1 fs0 fs1
                go_wp2_with fail
                go_region
                all_goals go_wp2_with fail
                all_goals
                  have FIN := ST1.out.fin (.int .i64 0) (.slice none 0 0) (.int .i64 r1) (.int .i64 r2)
                  exact bodyPost_ret (v := .tuple #[.agg #[.int .i64 0, .slice none 0 0], .agg #[.int .i64 r1, .int .i64 r2]]) (by simp [results, Tryz.results5, go_sem, rs0, rs1, fs0, fs1, rs4, fs4]) rfl
                    ⟨none, 0, 0, rfl, grid_nil _, below_drew1 (below_alloc FIN.1 _)⟩
            · have dk : ((k : Int) != mn) = true := by rw [bne_iff_ne]; exact fun e => hmk e.symm
              have hrr : r = (0, [], 9, 0) := by rw [← HRF.out, hRl]; exact out_size (Or.inr (Or.inr (by rw [HL.out.1]; exact hmk)))
              subst hrr
              clear HRF hRl
              have rs0 := ST.out.rb.cell 0
              have rs1 := ST.out.rb.cell 1
              have rs2 := ST.out.rb.frozen 0
              have rs3 := ST.out.rb.frozen 1
              have rs4 := ST.out.rb.lt
              have fs0 := ST.out.fb.cell 0
              have fs1 := ST.out.fb.cell 1
              have fs2 := ST.out.fb.frozen 0
              have fs3 := ST.out.fb.frozen 1
              have fs4 := ST.out.fb.lt
              simp at rs0 rs1 fs0 fs1
              go_wp2_with fail
              exact bodyPost_ret (v := .tuple #[.agg #[.int .i64 0, .slice none 0 0], .agg #[.int .i64 9, .int .i64 0]]) (by simp [results, Tryz.results5, go_sem, rs0, rs1, fs0, fs1, rs4, fs4]) rfl
                ⟨none, 0, 0, rfl, grid_nil _, (ST.out.fin _ _ _ _).1⟩
          · have dm : (0 : Int) < (m : Int) := by omega
            have hrr : r = (0, [], 9, 0) := by rw [← HRF.out, hRl]; exact out_size (Or.inr (Or.inl (fun e => hm0 (by rw [← HL.out.2, e]; rfl))))
            subst hrr
            clear HRF hRl
            have rs0 := ST.out.rb.cell 0
            have rs1 := ST.out.rb.cell 1
            have rs2 := ST.out.rb.frozen 0
            have rs3 := ST.out.rb.frozen 1
            have rs4 := ST.out.rb.lt
            have fs0 := ST.out.fb.cell 0
            have fs1 := ST.out.fb.cell 1
            have fs2 := ST.out.fb.frozen 0
            have fs3 := ST.out.fb.frozen 1
            have fs4 := ST.out.fb.lt
            simp at rs0 rs1 fs0 fs1
            go_wp2_with fail
            exact bodyPost_ret (v := .tuple #[.agg #[.int .i64 0, .slice none 0 0], .agg #[.int .i64 9, .int .i64 0]]) (by simp [results, Tryz.results5, go_sem, rs0, rs1, fs0, fs1, rs4, fs4]) rfl
              ⟨none, 0, 0, rfl, grid_nil _, (ST.out.fin _ _ _ _).1⟩
end Go.Proofs.YtabjbpkojbdgaaaGreatDoor
