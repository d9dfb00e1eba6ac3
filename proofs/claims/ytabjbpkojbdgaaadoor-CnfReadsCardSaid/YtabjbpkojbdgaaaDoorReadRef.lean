/- Contract of the reference's Read. (Printed by wip/tools/readref.py.) -/
import Derived.Test.YtabjbpkojbdgaaaDoorRdSt
import Derived.Test.YtabjbpkojbdgaaaDoorReadLems
import Derived.Test.YtabjbpkojbdgaaaDoorWords
import Derived.Test.YtabjbpkojbdgaaaDoorSlices
import Derived.Test.YtabjbpkojbdgaaaDoorCnfB
namespace Go.Proofs.YtabjbpkojbdgaaaDoor
open Go.RowKit
set_option linter.unusedSimpArgs false
set_option linter.unusedVariables false

theorem row_info_r : (Tryd.prog.info? 46).map (fun i => (i.zero, i.size, i.bytes)) = some (some (.slice none 0 0), 1, 24) := by kernel_rfl
theorem int_info_r : (Tryd.prog.info? 3).map (fun i => (i.zero, i.size, i.bytes)) = some (some (.int .i64 0), 1, 8) := by kernel_rfl

set_option maxHeartbeats 4000000 in
set_option maxRecDepth 100000 in
theorem read_ref (s : ByteArray) (w : World) (hs : s.size ≤ maxLen) (r : Int × List (List Int) × Int × Int) (hr : Hid (readF s.data.toList = r)) :
    Calls Tryd.prog 9 #[.string s] w (RetRead r w) := by
  obtain ⟨l, hl⟩ : ∃ l, Hid (s.data.toList = l) := ⟨_, rfl⟩
  have hsz : Hid (s.size = l.length) := by show _ = _; rw [← hl.out, Array.length_toList]; rfl
  rw [hl.out] at hr
  unfold maxLen at hs
  by_cases h8 : 80000 < s.size
  · have u1 : (80000 : Int) < (s.size : Int) := by omega
    have hrr : r = (0, [], 2, 0) := by rw [← hr.out]; exact readF_long (by have := hsz.out; omega)
    subst hrr
    clear hr hsz
    go_enter Tryd.func9, Tryd.ntmps9
    go_wp2_with fail
    exact bodyPost_ret (v := .tuple #[.agg #[.int .i64 0, .slice none 0 0], .agg #[.int .i64 2, .int .i64 0]]) (by simp [results, Tryd.results9, go_sem]) rfl
      ⟨none, 0, 0, rfl, grid_nil _, below_alloc (below_new _ _) _⟩
  · obtain ⟨R, hR⟩ : ∃ R, Hid (rd0.lines (linesF l) 0 = R) := ⟨_, rfl⟩
    have HRF : Hid (outF R = r) := by show _ = _; rw [← hr.out, readF_out (by have := hsz.out; omega), hR.out]
    have HSTART := Lib.hid (RdSt.start w)
    have u1 : ¬ (80000 : Int) < (s.size : Int) := by omega
    obtain ⟨i0, hi0, hz0, hz1, hz2⟩ := info_parts int_info_r
    obtain ⟨j0, hj0, hy0, hy1, hy2⟩ := info_parts row_info_r
    clear hr
    go_enter Tryd.func9, Tryd.ntmps9
    go_wp2_with fail
    go_loopw [5, 6, 7, 8, 9, 10] (fun t5 t6 t7 t8 t9 t10 wr => ∃ (i bg ln h k cO m cN : Nat) (O N : Option Addr) (hd : Bool) (vs mn : Int) (cls : List (List Int)) (now : List Int), i ≤ s.size + 1 ∧ bg ≤ i ∧ ln ≤ bg ∧ t5 = .slice N m cN ∧ t6 = .bool hd ∧ t7 = .int .i64 mn ∧ t8 = .int .i64 ln ∧ t9 = .int .i64 bg ∧ t10 = .int .i64 i ∧ k + m ≤ bg ∧ Hid (I64 mn) ∧ Hid (I64 vs) ∧ Hid (RdSt w wr h vs O k cO cls N m cN now) ∧ Hid (Rd.lines ⟨hd, vs, mn, cls, now⟩ (restL l bg i) ln = R)) (fun _ _ _ _ _ q _ => s.size + 1 - (intOf q).toNat)
    case atStart => exact ⟨0, 0, 0, w.heap.size + 3, 0, 0, 0, 0, none, none, false, 0, 0, [], [], Nat.zero_le _, Nat.le_refl _, Nat.le_refl _, rfl, rfl, rfl, rfl, rfl, rfl, Nat.le_refl _, (by show I64 0; unfold I64; omega), (by show I64 0; unfold I64; omega), HSTART, by show _ = _; rw [restL_start]; exact hR.out⟩
    case round =>
      clear HSTART hR
      obtain ⟨i, bg, ln, h, k, cO, m, cN, O, N, hd, vs, mn, cls, now, hi1, hbg, hln, rfl, rfl, rfl, rfl, rfl, rfl, hkm, hmn, hvs, ST, HR⟩ := hrel
      by_cases hle : i ≤ s.size
      · have vle : (i : Int) ≤ (s.size : Int) := by omega
        have vi0 : (0 : Int) ≤ (i : Int) := by omega
        by_cases hlt : i < s.size
        · have vlt : (i : Int) < (s.size : Int) := by omega
          obtain ⟨b, hb⟩ : ∃ b, l[i]? = some b := ⟨_, List.getElem?_eq_getElem (by have := hsz.out; omega)⟩
          obtain ⟨hk2, hcs⟩ := list_at hl hb
          by_cases h10 : b = 10
          · have d10 : ((b.toNat : Int) != 10) = false := by rw [h10]; rfl
            have hcut := restL_cut (begin := bg) (by rw [← h10]; exact hb) hbg
            clear hb h10
            have HRC : Hid (Rd.lines ⟨hd, vs, mn, cls, now⟩ (((l.take i).drop bg) :: restL l (i + 1) (i + 1)) ln = R) := by
              have h1 := HR.out
              rw [hcut] at h1
              exact h1
            obtain ⟨x, hx⟩ : ∃ x, s.extract bg i = x := ⟨_, rfl⟩
            have hxl : x.data.toList = (l.take i).drop bg := by
              rw [← hx, Lib.extract_data, hl.out, List.drop_take]
            have hxz : x.size = i - bg := by rw [size_list, hxl, List.length_drop, List.length_take]; have := hsz.out; omega
            have hx8 : x.size ≤ 80000 := by omega
            obtain ⟨ws, hws⟩ : ∃ ws, Hid (wordsF ((l.take i).drop bg) = ws) := ⟨_, rfl⟩
            have HWZ : Hid (∀ y ∈ ws, y.length ≤ 80000) := fun y hy => by
              rw [← hws.out] at hy
              have h1 := wordsF_sizes hy
              rw [← hxl, ← size_list] at h1
              omega
            have hwl : ws.length ≤ i - bg := by
              have h1 := wordsF_len ((l.take i).drop bg)
              rw [hws.out, ← hxl, ← size_list] at h1
              omega
            have v2 : (bg : Int) ≤ (i : Int) := by omega
            have v3 : (0 : Int) ≤ (bg : Int) := by omega
            have v30 : (i : Int) ≤ (s.size : Int) := by omega
            clear hcut HR
            go_wp2_with fail
            refine (words_ref x _ (by omega)).mono ?_
            rintro e w1 ⟨W, nW, cW, ss, rfl, hOW, hWs, hb1⟩
            rw [hxl, hws.out] at hWs
            have HSS := Lib.hid hWs
            obtain ⟨bW, hbW⟩ : ∃ z : Nat, wr.heap.size = z := ⟨_, rfl⟩
            rw [hbW] at hOW
            have HOW := Lib.hid hOW
            have HWL : Hid (ws.length = nW) := by show _ = _; have := hOW.len; rw [← hWs]; simpa using this
            have hnW : nW ≤ i - bg := by have := HWL.out; omega
            have ST1 := Lib.hid (ST.out.keep hb1)
            clear hOW hWs hb1 hbW ST hxl hx hwl
            by_cases h0 : nW = 0
            · have d0 : ((nW : Int) == 0) = true := by rw [h0]; rfl
              have hw0 : ws = [] := List.eq_nil_of_length_eq_zero (by have := HWL.out; omega)
              have HRN : Hid (Rd.lines ⟨hd, vs, mn, cls, now⟩ (restL l (i + 1) (i + 1)) (ln + 1) = R) := by
                have h1 := HRC.out
                rw [lines_step (line_skip (Or.inl (by rw [hws.out, hw0])))] at h1
                exact h1
              clear HRC
              go_wp2_with fail
              go_roundw
              case rel => exact ⟨i + 1, i + 1, ln + 1, h, k, cO, m, cN, O, N, hd, vs, mn, cls, now, by omega, Nat.le_refl _, by omega, rfl, rfl, rfl, by go_num, by go_num, by go_num, by omega, hmn, hvs, ST1, HRN⟩
              case measure => simp [intOf] <;> omega
            · have d0 : ((nW : Int) == 0) = false := beq_eq_false_iff_ne.2 (by omega)
              have hlt0 : 0 < nW := by omega
              obtain ⟨gW0, u0, rfl, _, hgl0, hcell0, _, hu0⟩ := HOW.out.at_ hlt0
              obtain ⟨s0, rfl, hw0⟩ := word_of HSS.out hu0.out
              have v40 : (0 : Int) < (nW : Int) := by omega
              by_cases hc9 : s0.data.toList = [99]
              · have d9 : (s0.toList == [99]) = true := by rw [ByteArray.toList_eq, hc9]; rfl
                have HRN : Hid (Rd.lines ⟨hd, vs, mn, cls, now⟩ (restL l (i + 1) (i + 1)) (ln + 1) = R) := by
                  have h1 := HRC.out
                  rw [lines_step (line_skip (Or.inr (by rw [hws.out, List.head?_eq_getElem?, hw0, hc9])))] at h1
                  exact h1
                clear HRC
                go_wp2_with fail
                go_roundw
                case rel => exact ⟨i + 1, i + 1, ln + 1, h, k, cO, m, cN, O, N, hd, vs, mn, cls, now, by omega, Nat.le_refl _, by omega, rfl, rfl, rfl, by go_num, by go_num, by go_num, by omega, hmn, hvs, ST1, HRN⟩
                case measure => simp [intOf] <;> omega
              · have d9 : (s0.toList == [99]) = false := by rw [ByteArray.toList_eq]; exact beq_eq_false_iff_ne.2 hc9
                have hsk : ¬ (ws = [] ∨ ws.head? = some [99]) := by
                  rintro (e | e)
                  · rw [e] at hw0; cases hw0
                  · rw [List.head?_eq_getElem?, hw0] at e; exact hc9 (Option.some.inj e)
                clear hu0 hc9
                cases hd with
                | false =>
                  by_cases h4 : nW = 4
                  · have d4 : ((nW : Int) != 4) = false := by rw [h4]; rfl
                    have hlt1 : 1 < nW := by omega
                    have hlt2 : 2 < nW := by omega
                    have hlt3 : 3 < nW := by omega
                    obtain ⟨_, u1', e1', _, _, hc1, _, hu1⟩ := HOW.out.at_ hlt1
                    obtain ⟨_, u2', e2', _, _, hc2, _, hu2⟩ := HOW.out.at_ hlt2
                    obtain ⟨_, u3', e3', _, _, hc3, _, hu3⟩ := HOW.out.at_ hlt3
                    cases e1'; cases e2'; cases e3'
                    obtain ⟨s1, rfl, hw1⟩ := word_of HSS.out hu1.out
                    obtain ⟨s2, rfl, hw2⟩ := word_of HSS.out hu2.out
                    obtain ⟨s3, rfl, hw3⟩ := word_of HSS.out hu3.out
                    have v41 : (1 : Int) < (nW : Int) := by omega
                    have v42 : (2 : Int) < (nW : Int) := by omega
                    have v43 : (3 : Int) < (nW : Int) := by omega
                    have hl4 : ws.length = 4 := by have := HWL.out; omega
                    by_cases hp : s0.data.toList = [112]
                    · have dp : (s0.toList == [112]) = true := by rw [ByteArray.toList_eq, hp]; rfl
                      by_cases hc : s1.data.toList = [99, 110, 102]
                      · have dcn : (s1.toList == [99, 110, 102]) = true := by rw [ByteArray.toList_eq, hc]; rfl
                        have hform : ws = [[112], [99, 110, 102], s2.data.toList, s3.data.toList] := by
                          obtain ⟨a, b, hab⟩ := head_form (ws := ws) (by rw [List.head?_eq_getElem?, hw0, hw1, hp, hc]; simp [hl4])
                          rw [hab] at hw2 hw3 ⊢
                          simp at hw2 hw3
                          rw [hw2, hw3]
                        have hsz2 : s2.size ≤ 80000 := by rw [size_list]; exact HWZ.out _ (List.mem_of_getElem? hw2)
                        have hsz3 : s3.size ≤ 80000 := by rw [size_list]; exact HWZ.out _ (List.mem_of_getElem? hw3)
                        obtain ⟨q2, Hq2⟩ : ∃ q, Hid (numF s2.data.toList = q) := ⟨_, rfl⟩
                        obtain ⟨q3, Hq3⟩ : ∃ q, Hid (numF s3.data.toList = q) := ⟨_, rfl⟩
                        have HLH : Hid (Rd.line ⟨false, vs, mn, cls, now⟩ ws = Rd.told ⟨false, vs, mn, cls, now⟩ q2 q3) := by
                          show _ = _
                          rw [hform, line_head rfl, Hq2.out, Hq3.out]
                        clear hform hw1 hw2 hw3 hu1 hu2 hu3 hsk hp hc hl4
                        go_wp2_with fail
                        refine (number_ref s2 _ (by omega) q2 Hq2).mono ?_
                        rintro e wn ⟨rfl, mq, rfl⟩
                        obtain ⟨wq, hwq⟩ : ∃ z : World, z = w1.drewN mq := ⟨_, rfl⟩
                        have hbq : Below w1.heap.size w1 wq := by rw [hwq]; exact below_drewN _ _
                        have STQ := Lib.hid (ST1.out.keep hbq)
                        have hc3q := keepBox hbq hc3
                        have hgl3 := (cell_lt hc3q).1
                        rw [← hwq]
                        clear hwq hbq ST1 HOW hc1 hc2 hc3 hcell0
                        go_wp2_with fail
                        refine (number_ref s3 _ (by omega) q3 Hq3).mono ?_
                        rintro e wn ⟨rfl, mq3, rfl⟩
                        obtain ⟨wp, hwp⟩ : ∃ z : World, z = wq.drewN mq3 := ⟨_, rfl⟩
                        have hbp : Below wq.heap.size wq wp := by rw [hwp]; exact below_drewN _ _
                        have STP := Lib.hid (STQ.out.keep hbp)
                        rw [← hwp]
                        clear hwp hbp STQ hc3q hgl3
                        cases q2 with
                        | none =>
                          have hrr : r = (0, [], 1, (ln : Int)) := outF_wrong HRF.out (by have h1 := HRC.out; rw [lines_wrong (by rw [hws.out, HLH.out]; rfl)] at h1; exact h1)
                          subst hrr
                          clear HRC HRF
                          have rs0 := STP.out.rb.cell 0
                          have rs1 := STP.out.rb.cell 1
                          have rs2 := STP.out.rb.frozen 0
                          have rs3 := STP.out.rb.frozen 1
                          have rs4 := STP.out.rb.lt
                          have fs0 := STP.out.fb.cell 0
                          have fs1 := STP.out.fb.cell 1
                          have fs2 := STP.out.fb.frozen 0
                          have fs3 := STP.out.fb.frozen 1
                          have fs4 := STP.out.fb.lt
                          simp at rs0 rs1 fs0 fs1
                          go_wp2_with fail
                          exact bodyPost_ret (v := .tuple #[.agg #[.int .i64 0, .slice none 0 0], .agg #[.int .i64 1, .int .i64 ln]]) (by simp [results, Tryd.results9, go_sem, rs0, rs1, fs0, fs1, rs4, fs4]) rfl
                            ⟨none, 0, 0, rfl, grid_nil _, (STP.out.fin _ _ _ _).1⟩
                        | some v =>
                          cases q3 with
                          | none =>
                            have hrr : r = (0, [], 1, (ln : Int)) := outF_wrong HRF.out (by have h1 := HRC.out; rw [lines_wrong (by rw [hws.out, HLH.out]; rfl)] at h1; exact h1)
                            subst hrr
                            clear HRC HRF
                            have rs0 := STP.out.rb.cell 0
                            have rs1 := STP.out.rb.cell 1
                            have rs2 := STP.out.rb.frozen 0
                            have rs3 := STP.out.rb.frozen 1
                            have rs4 := STP.out.rb.lt
                            have fs0 := STP.out.fb.cell 0
                            have fs1 := STP.out.fb.cell 1
                            have fs2 := STP.out.fb.frozen 0
                            have fs3 := STP.out.fb.frozen 1
                            have fs4 := STP.out.fb.lt
                            simp at rs0 rs1 fs0 fs1
                            go_wp2_with fail
                            exact bodyPost_ret (v := .tuple #[.agg #[.int .i64 0, .slice none 0 0], .agg #[.int .i64 1, .int .i64 ln]]) (by simp [results, Tryd.results9, go_sem, rs0, rs1, fs0, fs1, rs4, fs4]) rfl
                              ⟨none, 0, 0, rfl, grid_nil _, (STP.out.fin _ _ _ _).1⟩
                          | some kk =>
                            have hb2 := numF_bd Hq2.out
                            have hb3 := numF_bd Hq3.out
                            have HRN : Hid (Rd.lines ⟨true, v, kk, cls, now⟩ (restL l (i + 1) (i + 1)) (ln + 1) = R) := by
                              have h1 := HRC.out
                              rw [lines_step (r' := ⟨true, v, kk, cls, now⟩) (by rw [hws.out, HLH.out]; rfl)] at h1
                              exact h1
                            have STN := Lib.hid (STP.out.top v)
                            have o0 := STP.out.ob.cell 0
                            have o2 := STP.out.ob.frozen 0
                            have o4 := STP.out.ob.lt
                            simp at o0
                            have hmn2 : Hid (I64 kk) := by show I64 kk; unfold I64; omega
                            have hvs2 : Hid (I64 v) := by show I64 v; unfold I64; omega
                            clear HRC HLH hb2 hb3 hmn hvs STP
                            go_wp2_with fail
                            go_roundw
                            case rel => exact ⟨i + 1, i + 1, ln + 1, h, k, cO, m, cN, O, N, true, v, kk, cls, now, by omega, Nat.le_refl _, by omega, rfl, rfl, rfl, by go_num, by go_num, by go_num, by omega, hmn2, hvs2, STN, HRN⟩
                            case measure => simp [intOf] <;> omega
                      · have dcn : (s1.toList == [99, 110, 102]) = false := by rw [ByteArray.toList_eq]; exact beq_eq_false_iff_ne.2 hc
                        have hbd : Rd.line ⟨false, vs, mn, cls, now⟩ ws = none := line_bad (fun e => hsk (e.imp id id)) rfl (Or.inr (Or.inr (by rw [hw1]; simpa using hc)))
                        have hrr : r = (0, [], 1, (ln : Int)) := outF_wrong HRF.out (by have h1 := HRC.out; rw [lines_wrong (by rw [hws.out, hbd])] at h1; exact h1)
                        subst hrr
                        clear HRC HRF
                        have rs0 := ST1.out.rb.cell 0
                        have rs1 := ST1.out.rb.cell 1
                        have rs2 := ST1.out.rb.frozen 0
                        have rs3 := ST1.out.rb.frozen 1
                        have rs4 := ST1.out.rb.lt
                        have fs0 := ST1.out.fb.cell 0
                        have fs1 := ST1.out.fb.cell 1
                        have fs2 := ST1.out.fb.frozen 0
                        have fs3 := ST1.out.fb.frozen 1
                        have fs4 := ST1.out.fb.lt
                        simp at rs0 rs1 fs0 fs1
                        go_wp2_with fail
                        exact bodyPost_ret (v := .tuple #[.agg #[.int .i64 0, .slice none 0 0], .agg #[.int .i64 1, .int .i64 ln]]) (by simp [results, Tryd.results9, go_sem, rs0, rs1, fs0, fs1, rs4, fs4]) rfl
                          ⟨none, 0, 0, rfl, grid_nil _, (ST1.out.fin _ _ _ _).1⟩
                    · have dp : (s0.toList == [112]) = false := by rw [ByteArray.toList_eq]; exact beq_eq_false_iff_ne.2 hp
                      have hbd : Rd.line ⟨false, vs, mn, cls, now⟩ ws = none := line_bad (fun e => hsk (e.imp id id)) rfl (Or.inr (Or.inl (by rw [List.head?_eq_getElem?, hw0]; simpa using hp)))
                      have hrr : r = (0, [], 1, (ln : Int)) := outF_wrong HRF.out (by have h1 := HRC.out; rw [lines_wrong (by rw [hws.out, hbd])] at h1; exact h1)
                      subst hrr
                      clear HRC HRF
                      have rs0 := ST1.out.rb.cell 0
                      have rs1 := ST1.out.rb.cell 1
                      have rs2 := ST1.out.rb.frozen 0
                      have rs3 := ST1.out.rb.frozen 1
                      have rs4 := ST1.out.rb.lt
                      have fs0 := ST1.out.fb.cell 0
                      have fs1 := ST1.out.fb.cell 1
                      have fs2 := ST1.out.fb.frozen 0
                      have fs3 := ST1.out.fb.frozen 1
                      have fs4 := ST1.out.fb.lt
                      simp at rs0 rs1 fs0 fs1
                      go_wp2_with fail
                      exact bodyPost_ret (v := .tuple #[.agg #[.int .i64 0, .slice none 0 0], .agg #[.int .i64 1, .int .i64 ln]]) (by simp [results, Tryd.results9, go_sem, rs0, rs1, fs0, fs1, rs4, fs4]) rfl
                        ⟨none, 0, 0, rfl, grid_nil _, (ST1.out.fin _ _ _ _).1⟩
                  · have d4 : ((nW : Int) != 4) = true := by rw [bne_iff_ne]; omega
                    have hbd : Rd.line ⟨false, vs, mn, cls, now⟩ ws = none := line_bad (fun e => hsk (e.imp id id)) rfl (Or.inl (by have := HWL.out; omega))
                    have hrr : r = (0, [], 1, (ln : Int)) := outF_wrong HRF.out (by have h1 := HRC.out; rw [lines_wrong (by rw [hws.out, hbd])] at h1; exact h1)
                    subst hrr
                    clear HRC HRF
                    have rs0 := ST1.out.rb.cell 0
                    have rs1 := ST1.out.rb.cell 1
                    have rs2 := ST1.out.rb.frozen 0
                    have rs3 := ST1.out.rb.frozen 1
                    have rs4 := ST1.out.rb.lt
                    have fs0 := ST1.out.fb.cell 0
                    have fs1 := ST1.out.fb.cell 1
                    have fs2 := ST1.out.fb.frozen 0
                    have fs3 := ST1.out.fb.frozen 1
                    have fs4 := ST1.out.fb.lt
                    simp at rs0 rs1 fs0 fs1
                    go_wp2_with fail
                    exact bodyPost_ret (v := .tuple #[.agg #[.int .i64 0, .slice none 0 0], .agg #[.int .i64 1, .int .i64 ln]]) (by simp [results, Tryd.results9, go_sem, rs0, rs1, fs0, fs1, rs4, fs4]) rfl
                      ⟨none, 0, 0, rfl, grid_nil _, (ST1.out.fin _ _ _ _).1⟩
                | true =>
                  clear hw0
                  have HLI0 := Lib.hid (line_nums (r := ⟨true, vs, mn, cls, now⟩) (fun e => hsk (e.imp id id)) rfl)
                  obtain ⟨L, HLN⟩ : ∃ L, Hid (Rd.line ⟨true, vs, mn, cls, now⟩ ws = L) := ⟨_, rfl⟩
                  have HLI : Hid ((numsF (ws.drop 0)).map (Rd.mk true vs mn cls now).puts = L) := by show _ = _; rw [← HLN.out, HLI0.out]; rfl
                  clear HLI0 hsk
                  go_wp2_with fail
                  go_loopw [5, 16] (fun t5 t16 wi => ∃ (j h k cO m cN : Nat) (O N : Option Addr) (cls : List (List Int)) (now : List Int), j ≤ nW ∧ t5 = .slice N m cN ∧ t16 = .int .i64 j ∧ k + m ≤ bg + j ∧ Hid (RdSt w wi h vs O k cO cls N m cN now) ∧ Hid (Own 9 wi bW (some ⟨gW0, 0, none⟩) nW cW (ss.map Value.string)) ∧ Hid ((numsF (ws.drop j)).map (Rd.mk true vs mn cls now).puts = L)) (fun _ q _ => nW - (intOf q).toNat)
                  case atStart => exact ⟨0, h, k, cO, m, cN, O, N, cls, now, Nat.zero_le _, rfl, rfl, by omega, ST1, HOW, HLI⟩
                  case round =>
                    clear HLI ST1 HOW hcell0
                    obtain ⟨j, h, k, cO, m, cN, O, N, cls, now, hj, rfl, rfl, hkm, ST, HOW, HLJ⟩ := hrel
                    by_cases hjn : j < nW
                    · obtain ⟨gW, uW, hgW, _, hgl, hcW, _, huW⟩ := HOW.out.at_ hjn
                      cases hgW
                      obtain ⟨sj, hsj, hwj⟩ := word_of HSS.out huW.out
                      subst hsj
                      have hsz7 : sj.size ≤ 80000 := by rw [size_list]; exact HWZ.out _ (List.mem_of_getElem? hwj)
                      obtain ⟨q, Hq⟩ : ∃ q, Hid (numF sj.data.toList = q) := ⟨_, rfl⟩
                      have v4 : (j : Int) < (nW : Int) := by omega
                      have v5 : (0 : Int) ≤ (j : Int) := by omega
                      have HWJ := Lib.hid hwj
                      clear huW hwj
                      go_wp2_with fail
                      refine (number_ref sj _ (by omega) q Hq).mono ?_
                      rintro e wn ⟨rfl, mq, rfl⟩
                      obtain ⟨wq, hwq⟩ : ∃ z : World, z = wr.drewN mq := ⟨_, rfl⟩
                      have hbq : Below wr.heap.size wr wq := by rw [hwq]; exact below_drewN _ _
                      have STQ := Lib.hid (ST.out.keep hbq)
                      have HOQ := Lib.hid (HOW.out.keep hbq)
                      rw [← hwq]
                      clear hwq hbq ST HOW hcW hgl
                      cases q with
                      | none =>
                        have hL : L = none := nums_bad HWJ.out Hq.out HLJ.out
                        have hrr : r = (0, [], 1, (ln : Int)) := outF_wrong HRF.out (by have h1 := HRC.out; rw [lines_wrong (by rw [hws.out, HLN.out, hL])] at h1; exact h1)
                        subst hrr
                        clear HRC HRF
                        have rs0 := STQ.out.rb.cell 0
                        have rs1 := STQ.out.rb.cell 1
                        have rs2 := STQ.out.rb.frozen 0
                        have rs3 := STQ.out.rb.frozen 1
                        have rs4 := STQ.out.rb.lt
                        have fs0 := STQ.out.fb.cell 0
                        have fs1 := STQ.out.fb.cell 1
                        have fs2 := STQ.out.fb.frozen 0
                        have fs3 := STQ.out.fb.frozen 1
                        have fs4 := STQ.out.fb.lt
                        simp at rs0 rs1 fs0 fs1
                        go_wp2_with fail
                        exact bodyPost_ret (v := .tuple #[.agg #[.int .i64 0, .slice none 0 0], .agg #[.int .i64 1, .int .i64 ln]]) (by simp [results, Tryd.results9, go_sem, rs0, rs1, fs0, fs1, rs4, fs4]) rfl
                          ⟨none, 0, 0, rfl, grid_nil _, (STQ.out.fin _ _ _ _).1⟩
                      | some n =>
                        have hnb := numF_bd Hq.out
                        have HLN2 := Lib.hid (nums_step HWJ.out Hq.out HLJ.out)
                        have lo := STQ.out.lo
                        have hi := STQ.out.hi
                        clear HLJ
                        by_cases hn0 : n = 0
                        · subst hn0
                          rw [Rd.put_zero] at HLN2
                          obtain ⟨vsO, hO, hR⟩ := STQ.out.rows.keep (cutW_below STQ.out.hi)
                          have HO := Lib.hid (hO.keep (below_new wq (.cells #[.slice N m cN] 46)))
                          have HRo := Lib.hid (hR.keep (below_new wq (.cells #[.slice N m cN] 46)))
                          have STB := Lib.hid (STQ.out.keep (below_new wq (.cells #[.slice N m cN] 46)))
                          have HOB := Lib.hid (HOQ.out.keep (below_new wq (.cells #[.slice N m cN] 46)))
                          have o0 := STQ.out.ob.cell 0
                          have o1 := STQ.out.ob.cell 1
                          have o4 := STQ.out.ob.lt
                          simp at o0 o1
                          clear hO hR
                          go_wp2_with (first
                            | (at_builtin
                               refine wpList_append_sl _ rfl (.tmp 130) (.tmp 132) _ rfl (w.heap.size + 3) 46 j0 _ 24 Tryd.underlying22 hj0 hy0 hy1 hy2 rfl O k cO _ rfl HO.out (some ⟨wq.heap.size, 0, none⟩) 1 1 _ rfl (sl_one wq 46 (.slice N m cN) rfl) (by simp [Value.oneCell']) (by simp only [maxLen]; omega) (by omega) (by simp; omega) ?_
                               intro O2 cO2 w6 hO2 hg6 hat6
                               have ST6 := Lib.hid (STB.out.shut HO.out HRo.out hO2 hg6)
                               have ob6 := STB.out.ob.grownO HO.out hg6 (by omega)
                               have HO6 := Lib.hid ((HOB.out.kept hg6 (own_ne HOB.out HO.out (by decide))).kept (grown_setCell w6 ⟨w.heap.size + 1 + 1, 1, none⟩ (.slice O2 (k + 1) cO2)) (Own.ne_typed (HOB.out.kept hg6 (own_ne HOB.out HO.out (by decide))) (Typed.of_blk ob6) (by decide)))
                               have s1 := ob6.cell 1
                               have sf1 := ob6.frozen 1
                               have sl6 := ob6.lt
                               simp at s1
                               clear hO2 hg6 hat6 ob6))
                          go_roundw
                          case rel => exact ⟨j + 1, _, k + 1, cO2, 0, 0, O2, none, cls ++ [now], [], by omega, rfl, by go_num, by omega, ST6, HO6, HLN2⟩
                          case measure => simp [intOf] <;> omega
                        · rw [Rd.put_lit _ hn0] at HLN2
                          have d00 : (n == 0) = false := beq_eq_false_iff_ne.2 hn0
                          have hi64 : I64 n := by unfold I64; omega
                          have HNO := Lib.hid (STQ.out.nw.keep (below_new wq (.cells #[.int .i64 n] 3)))
                          have STB := Lib.hid (STQ.out.keep (below_new wq (.cells #[.int .i64 n] 3)))
                          have HOB := Lib.hid (HOQ.out.keep (below_new wq (.cells #[.int .i64 n] 3)))
                          have hS := ints_made wq 3 [n] rfl (by simpa using hi64) (by simp [maxLen])
                          clear STQ
                          go_wp2_with (first
                            | (at_builtin
                               refine wpList_append_sl _ rfl (.tmp 135) (.tmp 137) _ rfl h 3 i0 _ 8 Tryd.underlying46 hi0 hz0 hz1 hz2 rfl N m cN _ rfl HNO.out (some ⟨wq.heap.size, 0, none⟩) 1 1 _ rfl hS.sl (ints_one _) (by simp only [maxLen]; omega) (by omega) (by simp; omega) ?_
                               intro N2 cN2 w6 hN2 hg6 hat6
                               have ST6 := Lib.hid (STB.out.lit hi64 hN2 hg6)
                               have HO6 := Lib.hid (HOB.out.kept hg6 (own_ne HOB.out HNO.out (by decide)))
                               clear hN2 hg6 hat6))
                          go_roundw
                          case rel => exact ⟨j + 1, h, k, cO, m + 1, cN2, O, N2, cls, now ++ [n], by omega, rfl, by go_num, by omega, ST6, HO6, HLN2⟩
                          case measure => simp [intOf] <;> omega
                    · have hL : L = some ⟨true, vs, mn, cls, now⟩ := nums_end (by have := HWL.out; omega) HLJ.out
                      have HRN : Hid (Rd.lines ⟨true, vs, mn, cls, now⟩ (restL l (i + 1) (i + 1)) (ln + 1) = R) := by
                        have h1 := HRC.out
                        rw [lines_step (by rw [hws.out, HLN.out, hL])] at h1
                        exact h1
                      obtain rfl : j = nW := by omega
                      clear HRC HLN HLJ hL
                      go_wp2_with fail
                      go_roundw
                      case rel => exact ⟨i + 1, i + 1, ln + 1, h, k, cO, m, cN, O, N, true, vs, mn, cls, now, by omega, Nat.le_refl _, by omega, rfl, rfl, rfl, by go_num, by go_num, by go_num, by omega, hmn, hvs, ST, HRN⟩
                      case measure => simp [intOf] <;> omega
          · have d10 : ((b.toNat : Int) != 10) = true := by rw [bne_iff_ne]; exact fun e => h10 (UInt8.toNat_inj.1 (by have : (10 : UInt8).toNat = 10 := rfl; omega))
            have HRN : Hid (Rd.lines ⟨hd, vs, mn, cls, now⟩ (restL l bg (i + 1)) ln = R) := by show _ = _; rw [← restL_byte hb h10 hbg]; exact HR.out
            clear HR hb h10
            go_wp2_with fail
            go_roundw
            case rel => exact ⟨i + 1, bg, ln, h, k, cO, m, cN, O, N, hd, vs, mn, cls, now, by omega, by omega, hln, rfl, rfl, rfl, rfl, rfl, by go_num, hkm, hmn, hvs, ST, HRN⟩
            case measure => simp [intOf] <;> omega
        · have vlt : ¬ (i : Int) < (s.size : Int) := by omega
          have hil : i = l.length := by have := hsz.out; omega
          have hcut : restL l bg i = ((l.take i).drop bg) :: restL l (i + 1) (i + 1) := by rw [hil]; exact restL_last
          clear hil
          have HRC : Hid (Rd.lines ⟨hd, vs, mn, cls, now⟩ (((l.take i).drop bg) :: restL l (i + 1) (i + 1)) ln = R) := by
            have h1 := HR.out
            rw [hcut] at h1
            exact h1
          obtain ⟨x, hx⟩ : ∃ x, s.extract bg i = x := ⟨_, rfl⟩
          have hxl : x.data.toList = (l.take i).drop bg := by
            rw [← hx, Lib.extract_data, hl.out, List.drop_take]
          have hxz : x.size = i - bg := by rw [size_list, hxl, List.length_drop, List.length_take]; have := hsz.out; omega
          have hx8 : x.size ≤ 80000 := by omega
          obtain ⟨ws, hws⟩ : ∃ ws, Hid (wordsF ((l.take i).drop bg) = ws) := ⟨_, rfl⟩
          have HWZ : Hid (∀ y ∈ ws, y.length ≤ 80000) := fun y hy => by
            rw [← hws.out] at hy
            have h1 := wordsF_sizes hy
            rw [← hxl, ← size_list] at h1
            omega
          have hwl : ws.length ≤ i - bg := by
            have h1 := wordsF_len ((l.take i).drop bg)
            rw [hws.out, ← hxl, ← size_list] at h1
            omega
          have v2 : (bg : Int) ≤ (i : Int) := by omega
          have v3 : (0 : Int) ≤ (bg : Int) := by omega
          have v30 : (i : Int) ≤ (s.size : Int) := by omega
          clear hcut HR
          go_wp2_with fail
          refine (words_ref x _ (by omega)).mono ?_
          rintro e w1 ⟨W, nW, cW, ss, rfl, hOW, hWs, hb1⟩
          rw [hxl, hws.out] at hWs
          have HSS := Lib.hid hWs
          obtain ⟨bW, hbW⟩ : ∃ z : Nat, wr.heap.size = z := ⟨_, rfl⟩
          rw [hbW] at hOW
          have HOW := Lib.hid hOW
          have HWL : Hid (ws.length = nW) := by show _ = _; have := hOW.len; rw [← hWs]; simpa using this
          have hnW : nW ≤ i - bg := by have := HWL.out; omega
          have ST1 := Lib.hid (ST.out.keep hb1)
          clear hOW hWs hb1 hbW ST hxl hx hwl
          by_cases h0 : nW = 0
          · have d0 : ((nW : Int) == 0) = true := by rw [h0]; rfl
            have hw0 : ws = [] := List.eq_nil_of_length_eq_zero (by have := HWL.out; omega)
            have HRN : Hid (Rd.lines ⟨hd, vs, mn, cls, now⟩ (restL l (i + 1) (i + 1)) (ln + 1) = R) := by
              have h1 := HRC.out
              rw [lines_step (line_skip (Or.inl (by rw [hws.out, hw0])))] at h1
              exact h1
            clear HRC
            go_wp2_with fail
            go_roundw
            case rel => exact ⟨i + 1, i + 1, ln + 1, h, k, cO, m, cN, O, N, hd, vs, mn, cls, now, by omega, Nat.le_refl _, by omega, rfl, rfl, rfl, by go_num, by go_num, by go_num, by omega, hmn, hvs, ST1, HRN⟩
            case measure => simp [intOf] <;> omega
          · have d0 : ((nW : Int) == 0) = false := beq_eq_false_iff_ne.2 (by omega)
            have hlt0 : 0 < nW := by omega
            obtain ⟨gW0, u0, rfl, _, hgl0, hcell0, _, hu0⟩ := HOW.out.at_ hlt0
            obtain ⟨s0, rfl, hw0⟩ := word_of HSS.out hu0.out
            have v40 : (0 : Int) < (nW : Int) := by omega
            by_cases hc9 : s0.data.toList = [99]
            · have d9 : (s0.toList == [99]) = true := by rw [ByteArray.toList_eq, hc9]; rfl
              have HRN : Hid (Rd.lines ⟨hd, vs, mn, cls, now⟩ (restL l (i + 1) (i + 1)) (ln + 1) = R) := by
                have h1 := HRC.out
                rw [lines_step (line_skip (Or.inr (by rw [hws.out, List.head?_eq_getElem?, hw0, hc9])))] at h1
                exact h1
              clear HRC
              go_wp2_with fail
              go_roundw
              case rel => exact ⟨i + 1, i + 1, ln + 1, h, k, cO, m, cN, O, N, hd, vs, mn, cls, now, by omega, Nat.le_refl _, by omega, rfl, rfl, rfl, by go_num, by go_num, by go_num, by omega, hmn, hvs, ST1, HRN⟩
              case measure => simp [intOf] <;> omega
            · have d9 : (s0.toList == [99]) = false := by rw [ByteArray.toList_eq]; exact beq_eq_false_iff_ne.2 hc9
              have hsk : ¬ (ws = [] ∨ ws.head? = some [99]) := by
                rintro (e | e)
                · rw [e] at hw0; cases hw0
                · rw [List.head?_eq_getElem?, hw0] at e; exact hc9 (Option.some.inj e)
              clear hu0 hc9
              cases hd with
              | false =>
                by_cases h4 : nW = 4
                · have d4 : ((nW : Int) != 4) = false := by rw [h4]; rfl
                  have hlt1 : 1 < nW := by omega
                  have hlt2 : 2 < nW := by omega
                  have hlt3 : 3 < nW := by omega
                  obtain ⟨_, u1', e1', _, _, hc1, _, hu1⟩ := HOW.out.at_ hlt1
                  obtain ⟨_, u2', e2', _, _, hc2, _, hu2⟩ := HOW.out.at_ hlt2
                  obtain ⟨_, u3', e3', _, _, hc3, _, hu3⟩ := HOW.out.at_ hlt3
                  cases e1'; cases e2'; cases e3'
                  obtain ⟨s1, rfl, hw1⟩ := word_of HSS.out hu1.out
                  obtain ⟨s2, rfl, hw2⟩ := word_of HSS.out hu2.out
                  obtain ⟨s3, rfl, hw3⟩ := word_of HSS.out hu3.out
                  have v41 : (1 : Int) < (nW : Int) := by omega
                  have v42 : (2 : Int) < (nW : Int) := by omega
                  have v43 : (3 : Int) < (nW : Int) := by omega
                  have hl4 : ws.length = 4 := by have := HWL.out; omega
                  by_cases hp : s0.data.toList = [112]
                  · have dp : (s0.toList == [112]) = true := by rw [ByteArray.toList_eq, hp]; rfl
                    by_cases hc : s1.data.toList = [99, 110, 102]
                    · have dcn : (s1.toList == [99, 110, 102]) = true := by rw [ByteArray.toList_eq, hc]; rfl
                      have hform : ws = [[112], [99, 110, 102], s2.data.toList, s3.data.toList] := by
                        obtain ⟨a, b, hab⟩ := head_form (ws := ws) (by rw [List.head?_eq_getElem?, hw0, hw1, hp, hc]; simp [hl4])
                        rw [hab] at hw2 hw3 ⊢
                        simp at hw2 hw3
                        rw [hw2, hw3]
                      have hsz2 : s2.size ≤ 80000 := by rw [size_list]; exact HWZ.out _ (List.mem_of_getElem? hw2)
                      have hsz3 : s3.size ≤ 80000 := by rw [size_list]; exact HWZ.out _ (List.mem_of_getElem? hw3)
                      obtain ⟨q2, Hq2⟩ : ∃ q, Hid (numF s2.data.toList = q) := ⟨_, rfl⟩
                      obtain ⟨q3, Hq3⟩ : ∃ q, Hid (numF s3.data.toList = q) := ⟨_, rfl⟩
                      have HLH : Hid (Rd.line ⟨false, vs, mn, cls, now⟩ ws = Rd.told ⟨false, vs, mn, cls, now⟩ q2 q3) := by
                        show _ = _
                        rw [hform, line_head rfl, Hq2.out, Hq3.out]
                      clear hform hw1 hw2 hw3 hu1 hu2 hu3 hsk hp hc hl4
                      go_wp2_with fail
                      refine (number_ref s2 _ (by omega) q2 Hq2).mono ?_
                      rintro e wn ⟨rfl, mq, rfl⟩
                      obtain ⟨wq, hwq⟩ : ∃ z : World, z = w1.drewN mq := ⟨_, rfl⟩
                      have hbq : Below w1.heap.size w1 wq := by rw [hwq]; exact below_drewN _ _
                      have STQ := Lib.hid (ST1.out.keep hbq)
                      have hc3q := keepBox hbq hc3
                      have hgl3 := (cell_lt hc3q).1
                      rw [← hwq]
                      clear hwq hbq ST1 HOW hc1 hc2 hc3 hcell0
                      go_wp2_with fail
                      refine (number_ref s3 _ (by omega) q3 Hq3).mono ?_
                      rintro e wn ⟨rfl, mq3, rfl⟩
                      obtain ⟨wp, hwp⟩ : ∃ z : World, z = wq.drewN mq3 := ⟨_, rfl⟩
                      have hbp : Below wq.heap.size wq wp := by rw [hwp]; exact below_drewN _ _
                      have STP := Lib.hid (STQ.out.keep hbp)
                      rw [← hwp]
                      clear hwp hbp STQ hc3q hgl3
                      cases q2 with
                      | none =>
                        have hrr : r = (0, [], 1, (ln : Int)) := outF_wrong HRF.out (by have h1 := HRC.out; rw [lines_wrong (by rw [hws.out, HLH.out]; rfl)] at h1; exact h1)
                        subst hrr
                        clear HRC HRF
                        have rs0 := STP.out.rb.cell 0
                        have rs1 := STP.out.rb.cell 1
                        have rs2 := STP.out.rb.frozen 0
                        have rs3 := STP.out.rb.frozen 1
                        have rs4 := STP.out.rb.lt
                        have fs0 := STP.out.fb.cell 0
                        have fs1 := STP.out.fb.cell 1
                        have fs2 := STP.out.fb.frozen 0
                        have fs3 := STP.out.fb.frozen 1
                        have fs4 := STP.out.fb.lt
                        simp at rs0 rs1 fs0 fs1
                        go_wp2_with fail
                        exact bodyPost_ret (v := .tuple #[.agg #[.int .i64 0, .slice none 0 0], .agg #[.int .i64 1, .int .i64 ln]]) (by simp [results, Tryd.results9, go_sem, rs0, rs1, fs0, fs1, rs4, fs4]) rfl
                          ⟨none, 0, 0, rfl, grid_nil _, (STP.out.fin _ _ _ _).1⟩
                      | some v =>
                        cases q3 with
                        | none =>
                          have hrr : r = (0, [], 1, (ln : Int)) := outF_wrong HRF.out (by have h1 := HRC.out; rw [lines_wrong (by rw [hws.out, HLH.out]; rfl)] at h1; exact h1)
                          subst hrr
                          clear HRC HRF
                          have rs0 := STP.out.rb.cell 0
                          have rs1 := STP.out.rb.cell 1
                          have rs2 := STP.out.rb.frozen 0
                          have rs3 := STP.out.rb.frozen 1
                          have rs4 := STP.out.rb.lt
                          have fs0 := STP.out.fb.cell 0
                          have fs1 := STP.out.fb.cell 1
                          have fs2 := STP.out.fb.frozen 0
                          have fs3 := STP.out.fb.frozen 1
                          have fs4 := STP.out.fb.lt
                          simp at rs0 rs1 fs0 fs1
                          go_wp2_with fail
                          exact bodyPost_ret (v := .tuple #[.agg #[.int .i64 0, .slice none 0 0], .agg #[.int .i64 1, .int .i64 ln]]) (by simp [results, Tryd.results9, go_sem, rs0, rs1, fs0, fs1, rs4, fs4]) rfl
                            ⟨none, 0, 0, rfl, grid_nil _, (STP.out.fin _ _ _ _).1⟩
                        | some kk =>
                          have hb2 := numF_bd Hq2.out
                          have hb3 := numF_bd Hq3.out
                          have HRN : Hid (Rd.lines ⟨true, v, kk, cls, now⟩ (restL l (i + 1) (i + 1)) (ln + 1) = R) := by
                            have h1 := HRC.out
                            rw [lines_step (r' := ⟨true, v, kk, cls, now⟩) (by rw [hws.out, HLH.out]; rfl)] at h1
                            exact h1
                          have STN := Lib.hid (STP.out.top v)
                          have o0 := STP.out.ob.cell 0
                          have o2 := STP.out.ob.frozen 0
                          have o4 := STP.out.ob.lt
                          simp at o0
                          have hmn2 : Hid (I64 kk) := by show I64 kk; unfold I64; omega
                          have hvs2 : Hid (I64 v) := by show I64 v; unfold I64; omega
                          clear HRC HLH hb2 hb3 hmn hvs STP
                          go_wp2_with fail
                          go_roundw
                          case rel => exact ⟨i + 1, i + 1, ln + 1, h, k, cO, m, cN, O, N, true, v, kk, cls, now, by omega, Nat.le_refl _, by omega, rfl, rfl, rfl, by go_num, by go_num, by go_num, by omega, hmn2, hvs2, STN, HRN⟩
                          case measure => simp [intOf] <;> omega
                    · have dcn : (s1.toList == [99, 110, 102]) = false := by rw [ByteArray.toList_eq]; exact beq_eq_false_iff_ne.2 hc
                      have hbd : Rd.line ⟨false, vs, mn, cls, now⟩ ws = none := line_bad (fun e => hsk (e.imp id id)) rfl (Or.inr (Or.inr (by rw [hw1]; simpa using hc)))
                      have hrr : r = (0, [], 1, (ln : Int)) := outF_wrong HRF.out (by have h1 := HRC.out; rw [lines_wrong (by rw [hws.out, hbd])] at h1; exact h1)
                      subst hrr
                      clear HRC HRF
                      have rs0 := ST1.out.rb.cell 0
                      have rs1 := ST1.out.rb.cell 1
                      have rs2 := ST1.out.rb.frozen 0
                      have rs3 := ST1.out.rb.frozen 1
                      have rs4 := ST1.out.rb.lt
                      have fs0 := ST1.out.fb.cell 0
                      have fs1 := ST1.out.fb.cell 1
                      have fs2 := ST1.out.fb.frozen 0
                      have fs3 := ST1.out.fb.frozen 1
                      have fs4 := ST1.out.fb.lt
                      simp at rs0 rs1 fs0 fs1
                      go_wp2_with fail
                      exact bodyPost_ret (v := .tuple #[.agg #[.int .i64 0, .slice none 0 0], .agg #[.int .i64 1, .int .i64 ln]]) (by simp [results, Tryd.results9, go_sem, rs0, rs1, fs0, fs1, rs4, fs4]) rfl
                        ⟨none, 0, 0, rfl, grid_nil _, (ST1.out.fin _ _ _ _).1⟩
                  · have dp : (s0.toList == [112]) = false := by rw [ByteArray.toList_eq]; exact beq_eq_false_iff_ne.2 hp
                    have hbd : Rd.line ⟨false, vs, mn, cls, now⟩ ws = none := line_bad (fun e => hsk (e.imp id id)) rfl (Or.inr (Or.inl (by rw [List.head?_eq_getElem?, hw0]; simpa using hp)))
                    have hrr : r = (0, [], 1, (ln : Int)) := outF_wrong HRF.out (by have h1 := HRC.out; rw [lines_wrong (by rw [hws.out, hbd])] at h1; exact h1)
                    subst hrr
                    clear HRC HRF
                    have rs0 := ST1.out.rb.cell 0
                    have rs1 := ST1.out.rb.cell 1
                    have rs2 := ST1.out.rb.frozen 0
                    have rs3 := ST1.out.rb.frozen 1
                    have rs4 := ST1.out.rb.lt
                    have fs0 := ST1.out.fb.cell 0
                    have fs1 := ST1.out.fb.cell 1
                    have fs2 := ST1.out.fb.frozen 0
                    have fs3 := ST1.out.fb.frozen 1
                    have fs4 := ST1.out.fb.lt
                    simp at rs0 rs1 fs0 fs1
                    go_wp2_with fail
                    exact bodyPost_ret (v := .tuple #[.agg #[.int .i64 0, .slice none 0 0], .agg #[.int .i64 1, .int .i64 ln]]) (by simp [results, Tryd.results9, go_sem, rs0, rs1, fs0, fs1, rs4, fs4]) rfl
                      ⟨none, 0, 0, rfl, grid_nil _, (ST1.out.fin _ _ _ _).1⟩
                · have d4 : ((nW : Int) != 4) = true := by rw [bne_iff_ne]; omega
                  have hbd : Rd.line ⟨false, vs, mn, cls, now⟩ ws = none := line_bad (fun e => hsk (e.imp id id)) rfl (Or.inl (by have := HWL.out; omega))
                  have hrr : r = (0, [], 1, (ln : Int)) := outF_wrong HRF.out (by have h1 := HRC.out; rw [lines_wrong (by rw [hws.out, hbd])] at h1; exact h1)
                  subst hrr
                  clear HRC HRF
                  have rs0 := ST1.out.rb.cell 0
                  have rs1 := ST1.out.rb.cell 1
                  have rs2 := ST1.out.rb.frozen 0
                  have rs3 := ST1.out.rb.frozen 1
                  have rs4 := ST1.out.rb.lt
                  have fs0 := ST1.out.fb.cell 0
                  have fs1 := ST1.out.fb.cell 1
                  have fs2 := ST1.out.fb.frozen 0
                  have fs3 := ST1.out.fb.frozen 1
                  have fs4 := ST1.out.fb.lt
                  simp at rs0 rs1 fs0 fs1
                  go_wp2_with fail
                  exact bodyPost_ret (v := .tuple #[.agg #[.int .i64 0, .slice none 0 0], .agg #[.int .i64 1, .int .i64 ln]]) (by simp [results, Tryd.results9, go_sem, rs0, rs1, fs0, fs1, rs4, fs4]) rfl
                    ⟨none, 0, 0, rfl, grid_nil _, (ST1.out.fin _ _ _ _).1⟩
              | true =>
                clear hw0
                have HLI0 := Lib.hid (line_nums (r := ⟨true, vs, mn, cls, now⟩) (fun e => hsk (e.imp id id)) rfl)
                obtain ⟨L, HLN⟩ : ∃ L, Hid (Rd.line ⟨true, vs, mn, cls, now⟩ ws = L) := ⟨_, rfl⟩
                have HLI : Hid ((numsF (ws.drop 0)).map (Rd.mk true vs mn cls now).puts = L) := by show _ = _; rw [← HLN.out, HLI0.out]; rfl
                clear HLI0 hsk
                go_wp2_with fail
                go_loopw [5, 16] (fun t5 t16 wi => ∃ (j h k cO m cN : Nat) (O N : Option Addr) (cls : List (List Int)) (now : List Int), j ≤ nW ∧ t5 = .slice N m cN ∧ t16 = .int .i64 j ∧ k + m ≤ bg + j ∧ Hid (RdSt w wi h vs O k cO cls N m cN now) ∧ Hid (Own 9 wi bW (some ⟨gW0, 0, none⟩) nW cW (ss.map Value.string)) ∧ Hid ((numsF (ws.drop j)).map (Rd.mk true vs mn cls now).puts = L)) (fun _ q _ => nW - (intOf q).toNat)
                case atStart => exact ⟨0, h, k, cO, m, cN, O, N, cls, now, Nat.zero_le _, rfl, rfl, by omega, ST1, HOW, HLI⟩
                case round =>
                  clear HLI ST1 HOW hcell0
                  obtain ⟨j, h, k, cO, m, cN, O, N, cls, now, hj, rfl, rfl, hkm, ST, HOW, HLJ⟩ := hrel
                  by_cases hjn : j < nW
                  · obtain ⟨gW, uW, hgW, _, hgl, hcW, _, huW⟩ := HOW.out.at_ hjn
                    cases hgW
                    obtain ⟨sj, hsj, hwj⟩ := word_of HSS.out huW.out
                    subst hsj
                    have hsz7 : sj.size ≤ 80000 := by rw [size_list]; exact HWZ.out _ (List.mem_of_getElem? hwj)
                    obtain ⟨q, Hq⟩ : ∃ q, Hid (numF sj.data.toList = q) := ⟨_, rfl⟩
                    have v4 : (j : Int) < (nW : Int) := by omega
                    have v5 : (0 : Int) ≤ (j : Int) := by omega
                    have HWJ := Lib.hid hwj
                    clear huW hwj
                    go_wp2_with fail
                    refine (number_ref sj _ (by omega) q Hq).mono ?_
                    rintro e wn ⟨rfl, mq, rfl⟩
                    obtain ⟨wq, hwq⟩ : ∃ z : World, z = wr.drewN mq := ⟨_, rfl⟩
                    have hbq : Below wr.heap.size wr wq := by rw [hwq]; exact below_drewN _ _
                    have STQ := Lib.hid (ST.out.keep hbq)
                    have HOQ := Lib.hid (HOW.out.keep hbq)
                    rw [← hwq]
                    clear hwq hbq ST HOW hcW hgl
                    cases q with
                    | none =>
                      have hL : L = none := nums_bad HWJ.out Hq.out HLJ.out
                      have hrr : r = (0, [], 1, (ln : Int)) := outF_wrong HRF.out (by have h1 := HRC.out; rw [lines_wrong (by rw [hws.out, HLN.out, hL])] at h1; exact h1)
                      subst hrr
                      clear HRC HRF
                      have rs0 := STQ.out.rb.cell 0
                      have rs1 := STQ.out.rb.cell 1
                      have rs2 := STQ.out.rb.frozen 0
                      have rs3 := STQ.out.rb.frozen 1
                      have rs4 := STQ.out.rb.lt
                      have fs0 := STQ.out.fb.cell 0
                      have fs1 := STQ.out.fb.cell 1
                      have fs2 := STQ.out.fb.frozen 0
                      have fs3 := STQ.out.fb.frozen 1
                      have fs4 := STQ.out.fb.lt
                      simp at rs0 rs1 fs0 fs1
                      go_wp2_with fail
                      exact bodyPost_ret (v := .tuple #[.agg #[.int .i64 0, .slice none 0 0], .agg #[.int .i64 1, .int .i64 ln]]) (by simp [results, Tryd.results9, go_sem, rs0, rs1, fs0, fs1, rs4, fs4]) rfl
                        ⟨none, 0, 0, rfl, grid_nil _, (STQ.out.fin _ _ _ _).1⟩
                    | some n =>
                      have hnb := numF_bd Hq.out
                      have HLN2 := Lib.hid (nums_step HWJ.out Hq.out HLJ.out)
                      have lo := STQ.out.lo
                      have hi := STQ.out.hi
                      clear HLJ
                      by_cases hn0 : n = 0
                      · subst hn0
                        rw [Rd.put_zero] at HLN2
                        obtain ⟨vsO, hO, hR⟩ := STQ.out.rows.keep (cutW_below STQ.out.hi)
                        have HO := Lib.hid (hO.keep (below_new wq (.cells #[.slice N m cN] 46)))
                        have HRo := Lib.hid (hR.keep (below_new wq (.cells #[.slice N m cN] 46)))
                        have STB := Lib.hid (STQ.out.keep (below_new wq (.cells #[.slice N m cN] 46)))
                        have HOB := Lib.hid (HOQ.out.keep (below_new wq (.cells #[.slice N m cN] 46)))
                        have o0 := STQ.out.ob.cell 0
                        have o1 := STQ.out.ob.cell 1
                        have o4 := STQ.out.ob.lt
                        simp at o0 o1
                        clear hO hR
                        go_wp2_with (first
                          | (at_builtin
                             refine wpList_append_sl _ rfl (.tmp 130) (.tmp 132) _ rfl (w.heap.size + 3) 46 j0 _ 24 Tryd.underlying22 hj0 hy0 hy1 hy2 rfl O k cO _ rfl HO.out (some ⟨wq.heap.size, 0, none⟩) 1 1 _ rfl (sl_one wq 46 (.slice N m cN) rfl) (by simp [Value.oneCell']) (by simp only [maxLen]; omega) (by omega) (by simp; omega) ?_
                             intro O2 cO2 w6 hO2 hg6 hat6
                             have ST6 := Lib.hid (STB.out.shut HO.out HRo.out hO2 hg6)
                             have ob6 := STB.out.ob.grownO HO.out hg6 (by omega)
                             have HO6 := Lib.hid ((HOB.out.kept hg6 (own_ne HOB.out HO.out (by decide))).kept (grown_setCell w6 ⟨w.heap.size + 1 + 1, 1, none⟩ (.slice O2 (k + 1) cO2)) (Own.ne_typed (HOB.out.kept hg6 (own_ne HOB.out HO.out (by decide))) (Typed.of_blk ob6) (by decide)))
                             have s1 := ob6.cell 1
                             have sf1 := ob6.frozen 1
                             have sl6 := ob6.lt
                             simp at s1
                             clear hO2 hg6 hat6 ob6))
                        go_roundw
                        case rel => exact ⟨j + 1, _, k + 1, cO2, 0, 0, O2, none, cls ++ [now], [], by omega, rfl, by go_num, by omega, ST6, HO6, HLN2⟩
                        case measure => simp [intOf] <;> omega
                      · rw [Rd.put_lit _ hn0] at HLN2
                        have d00 : (n == 0) = false := beq_eq_false_iff_ne.2 hn0
                        have hi64 : I64 n := by unfold I64; omega
                        have HNO := Lib.hid (STQ.out.nw.keep (below_new wq (.cells #[.int .i64 n] 3)))
                        have STB := Lib.hid (STQ.out.keep (below_new wq (.cells #[.int .i64 n] 3)))
                        have HOB := Lib.hid (HOQ.out.keep (below_new wq (.cells #[.int .i64 n] 3)))
                        have hS := ints_made wq 3 [n] rfl (by simpa using hi64) (by simp [maxLen])
                        clear STQ
                        go_wp2_with (first
                          | (at_builtin
                             refine wpList_append_sl _ rfl (.tmp 135) (.tmp 137) _ rfl h 3 i0 _ 8 Tryd.underlying46 hi0 hz0 hz1 hz2 rfl N m cN _ rfl HNO.out (some ⟨wq.heap.size, 0, none⟩) 1 1 _ rfl hS.sl (ints_one _) (by simp only [maxLen]; omega) (by omega) (by simp; omega) ?_
                             intro N2 cN2 w6 hN2 hg6 hat6
                             have ST6 := Lib.hid (STB.out.lit hi64 hN2 hg6)
                             have HO6 := Lib.hid (HOB.out.kept hg6 (own_ne HOB.out HNO.out (by decide)))
                             clear hN2 hg6 hat6))
                        go_roundw
                        case rel => exact ⟨j + 1, h, k, cO, m + 1, cN2, O, N2, cls, now ++ [n], by omega, rfl, by go_num, by omega, ST6, HO6, HLN2⟩
                        case measure => simp [intOf] <;> omega
                  · have hL : L = some ⟨true, vs, mn, cls, now⟩ := nums_end (by have := HWL.out; omega) HLJ.out
                    have HRN : Hid (Rd.lines ⟨true, vs, mn, cls, now⟩ (restL l (i + 1) (i + 1)) (ln + 1) = R) := by
                      have h1 := HRC.out
                      rw [lines_step (by rw [hws.out, HLN.out, hL])] at h1
                      exact h1
                    obtain rfl : j = nW := by omega
                    clear HRC HLN HLJ hL
                    go_wp2_with fail
                    go_roundw
                    case rel => exact ⟨i + 1, i + 1, ln + 1, h, k, cO, m, cN, O, N, true, vs, mn, cls, now, by omega, Nat.le_refl _, by omega, rfl, rfl, rfl, by go_num, by go_num, by go_num, by omega, hmn, hvs, ST, HRN⟩
                    case measure => simp [intOf] <;> omega
      · skip
        have hRl : R = .inl ⟨hd, vs, mn, cls, now⟩ := by
          have h1 := HR.out
          rw [show i = l.length + 1 by have := hsz.out; omega, restL_end] at h1
          exact h1.symm
        have HL := Lib.hid ST.out.len
        have v1 : ¬ (i : Int) ≤ (s.size : Int) := by omega
        clear HR
        cases hd with
        | false =>
          have hrr : r = (0, [], 9, 0) := by rw [← HRF.out, hRl]; exact out_size (Or.inl rfl)
          subst hrr
          clear HRF hRl
          have rs0 := ST.out.rb.cell 0
          have rs1 := ST.out.rb.cell 1
          have rs2 := ST.out.rb.frozen 0
          have rs3 := ST.out.rb.frozen 1
          have rs4 := ST.out.rb.lt
          have fs0 := ST.out.fb.cell 0
          have fs1 := ST.out.fb.cell 1
          have fs2 := ST.out.fb.frozen 0
          have fs3 := ST.out.fb.frozen 1
          have fs4 := ST.out.fb.lt
          simp at rs0 rs1 fs0 fs1
          go_wp2_with fail
          exact bodyPost_ret (v := .tuple #[.agg #[.int .i64 0, .slice none 0 0], .agg #[.int .i64 9, .int .i64 0]]) (by simp [results, Tryd.results9, go_sem, rs0, rs1, fs0, fs1, rs4, fs4]) rfl
            ⟨none, 0, 0, rfl, grid_nil _, (ST.out.fin _ _ _ _).1⟩
        | true =>
          by_cases hm0 : m = 0
          · have dm : ¬ (0 : Int) < (m : Int) := by omega
            have hn0 : now = [] := List.eq_nil_of_length_eq_zero (by rw [HL.out.2]; exact hm0)
            have o0 := ST.out.ob.cell 0
            have o1 := ST.out.ob.cell 1
            have o4 := ST.out.ob.lt
            simp at o0 o1
            by_cases hmk : mn = k
            · have dk : (mn != (k : Int)) = false := by rw [hmk]; simp
              obtain ⟨r1, r2, hck⟩ : ∃ r1 r2, Hid (checkC vs cls = (r1, r2)) := ⟨_, _, rfl⟩
              have HMK : Hid (mn = (cls.length : Int)) := by show _ = _; rw [HL.out.1]; exact hmk
              clear hmk
              go_wp2_with fail
              refine (check_ref O k cO cls vs wr ST.out.grid hvs.out r1 r2 hck).mono ?_
              rintro e w1 ⟨rfl, hb1⟩
              have ST1 := Lib.hid (ST.out.keep hb1)
              clear hb1 ST o0 o1 o4
              by_cases h0 : r1 = 0
              · subst h0
                have hr2 : r2 = 0 := by have := (checkC_ok (vars := vs) (xss := cls) (by rw [hck.out])).1; rw [hck.out] at this; simpa using this
                subst hr2
                have hrr : r = (vs, cls, 0, 0) := by rw [← HRF.out, hRl, hn0]; exact out_good HMK.out hck.out
                subst hrr
                clear HRF hRl
                have rs0 := ST1.out.rb.cell 0
                have rs1 := ST1.out.rb.cell 1
                have rs2 := ST1.out.rb.frozen 0
                have rs3 := ST1.out.rb.frozen 1
                have rs4 := ST1.out.rb.lt
                have fs0 := ST1.out.fb.cell 0
                have fs1 := ST1.out.fb.cell 1
                have fs2 := ST1.out.fb.frozen 0
                have fs3 := ST1.out.fb.frozen 1
                have fs4 := ST1.out.fb.lt
                have o0 := ST1.out.ob.cell 0
                have o1 := ST1.out.ob.cell 1
                have o4 := ST1.out.ob.lt
                simp at rs0 rs1 fs0 fs1 o0 o1
                go_wp2_with fail
                go_region
                all_goals go_wp2_with fail
                all_goals
                  have FIN := ST1.out.fin (.int .i64 vs) (.slice O k cO) (.int .i64 0) (.int .i64 0)
                  exact bodyPost_ret (v := .tuple #[.agg #[.int .i64 vs, .slice O k cO], .agg #[.int .i64 0, .int .i64 0]]) (by simp [results, Tryd.results9, go_sem, rs0, rs1, fs0, fs1, rs4, fs4]) rfl
                    ⟨O, k, cO, rfl, (FIN.2.keep (below_new _ _)).drewN 1, below_drew1 (below_alloc FIN.1 _)⟩
              · have dr : (r1 != 0) = true := by simpa using h0
                have hrr : r = (0, [], r1, r2) := by rw [← HRF.out, hRl, hn0]; exact out_check HMK.out hck.out h0
                subst hrr
                clear HRF hRl
                have rs0 := ST1.out.rb.cell 0
                have rs1 := ST1.out.rb.cell 1
                have rs2 := ST1.out.rb.frozen 0
                have rs3 := ST1.out.rb.frozen 1
                have rs4 := ST1.out.rb.lt
                have fs0 := ST1.out.fb.cell 0
                have fs1 := ST1.out.fb.cell 1
                have fs2 := ST1.out.fb.frozen 0
                have fs3 := ST1.out.fb.frozen 1
                have fs4 := ST1.out.fb.lt
                have o0 := ST1.out.ob.cell 0
                have o1 := ST1.out.ob.cell 1
                have o4 := ST1.out.ob.lt
                simp at rs0 rs1 fs0 fs1 o0 o1
                go_wp2_with fail
                go_region
                all_goals go_wp2_with fail
                all_goals
                  have FIN := ST1.out.fin (.int .i64 0) (.slice none 0 0) (.int .i64 r1) (.int .i64 r2)
                  exact bodyPost_ret (v := .tuple #[.agg #[.int .i64 0, .slice none 0 0], .agg #[.int .i64 r1, .int .i64 r2]]) (by simp [results, Tryd.results9, go_sem, rs0, rs1, fs0, fs1, rs4, fs4]) rfl
                    ⟨none, 0, 0, rfl, grid_nil _, below_drew1 (below_alloc FIN.1 _)⟩
            · have dk : (mn != (k : Int)) = true := by rw [bne_iff_ne]; exact hmk
              have hrr : r = (0, [], 9, 0) := by rw [← HRF.out, hRl]; exact out_size (Or.inr (Or.inr (by rw [HL.out.1]; exact hmk)))
              subst hrr
              clear HRF hRl
              have rs0 := ST.out.rb.cell 0
              have rs1 := ST.out.rb.cell 1
              have rs2 := ST.out.rb.frozen 0
              have rs3 := ST.out.rb.frozen 1
              have rs4 := ST.out.rb.lt
              have fs0 := ST.out.fb.cell 0
              have fs1 := ST.out.fb.cell 1
              have fs2 := ST.out.fb.frozen 0
              have fs3 := ST.out.fb.frozen 1
              have fs4 := ST.out.fb.lt
              simp at rs0 rs1 fs0 fs1
              go_wp2_with fail
              exact bodyPost_ret (v := .tuple #[.agg #[.int .i64 0, .slice none 0 0], .agg #[.int .i64 9, .int .i64 0]]) (by simp [results, Tryd.results9, go_sem, rs0, rs1, fs0, fs1, rs4, fs4]) rfl
                ⟨none, 0, 0, rfl, grid_nil _, (ST.out.fin _ _ _ _).1⟩
          · have dm : (0 : Int) < (m : Int) := by omega
            have hrr : r = (0, [], 9, 0) := by rw [← HRF.out, hRl]; exact out_size (Or.inr (Or.inl (fun e => hm0 (by rw [← HL.out.2, e]; rfl))))
            subst hrr
            clear HRF hRl
            have rs0 := ST.out.rb.cell 0
            have rs1 := ST.out.rb.cell 1
            have rs2 := ST.out.rb.frozen 0
            have rs3 := ST.out.rb.frozen 1
            have rs4 := ST.out.rb.lt
            have fs0 := ST.out.fb.cell 0
            have fs1 := ST.out.fb.cell 1
            have fs2 := ST.out.fb.frozen 0
            have fs3 := ST.out.fb.frozen 1
            have fs4 := ST.out.fb.lt
            simp at rs0 rs1 fs0 fs1
            go_wp2_with fail
            exact bodyPost_ret (v := .tuple #[.agg #[.int .i64 0, .slice none 0 0], .agg #[.int .i64 9, .int .i64 0]]) (by simp [results, Tryd.results9, go_sem, rs0, rs1, fs0, fs1, rs4, fs4]) rfl
              ⟨none, 0, 0, rfl, grid_nil _, (ST.out.fin _ _ _ _).1⟩
end Go.Proofs.YtabjbpkojbdgaaaDoor
