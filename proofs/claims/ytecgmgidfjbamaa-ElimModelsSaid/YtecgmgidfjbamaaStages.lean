/- Contract of elim.stages. (Printed by wip/tools/stages.py.) -/
import Derived.Test.YtecgmgidfjbamaaGoneRef
import Derived.Test.YtecgmgidfjbamaaWithout
import Derived.Test.YtecgmgidfjbamaaSat
namespace Go.Proofs.Ytecgmgidfjbamaa
open Go.RowKit
set_option linter.unusedSimpArgs false

theorem wide_any (A : Option Addr) (n c : Nat) (w : World) (hn : n ≤ 9223372036854775807) : Calls Try.prog 96 #[.slice A n c] w (RetQ (.bool (decide (24 < (n : Int)))) w) := by
  have _h := hn
  by_cases h1 : 24 < n
  · have d1 : decide (24 < (n : Int)) = true := decide_eq_true (by omega)
    rw [d1]
    go_enter Try.func96, Try.ntmps96
    go_wp2_with fail
    go_ret
    exact RetQ.of0 rfl
  · have d1 : decide (24 < (n : Int)) = false := decide_eq_false (by omega)
    rw [d1]
    go_enter Try.func96, Try.ntmps96
    go_wp2_with fail
    go_ret
    exact RetQ.of0 rfl
theorem enters_wide : Enters Try.prog 96 := enters_of Try.func96 (by kernel_rfl) rfl

set_option maxHeartbeats 1000000 in
theorem stages_bad (A B : Option Addr) (n c m d : Nat) (xss : List (List Int)) (vs : List Int) (vars : Int) (w : World) (h : Grid w A n c xss) (hv : I64 vars) (h' : Ints w B m d vs) (r1 r2 : Int) (hr : Hid (besideR vars xss vs = (r1, r2))) (h0 : r1 ≠ 0) :
    Calls Try.prog 67 #[.agg #[.int .i64 vars, .slice A n c], .slice B m d] w (RetV (.tuple #[.slice none 0 0, .agg #[.int .i64 r1, .int .i64 r2]]) w) := by
  have d1 : (r1 != 0) = true := by simpa using h0
  have hbW := below_alloc (below_new w (.cells #[.int .i64 vars, .slice A n c] 24)) (.cells #[.int .i64 0, .int .i64 0] 28)
  have g := h.keep hbW
  have g' := h'.keep hbW
  have HBW := Lib.hid hbW
  clear hbW
  go_enter Try.func67, Try.ntmps67
  go_wp2_with fail
  refine (both_any _ _ _ _ _ _ _ _ _ _ g hv g' _ _ hr).mono ?_
  rintro e w1 ⟨rfl, hb1⟩
  obtain ⟨k2, k4, _, l1⟩ := two_blks hb1
  have t0 := k4.cell 0
  have t1 := k4.cell 1
  have tf0 := k4.frozen 0
  have tf1 := k4.frozen 1
  simp at t0 t1
  have HB := Lib.hid (below_next HBW.out hb1)
  have l3 : w.heap.size + 1 < w1.heap.size := by omega
  clear hb1 k2 k4 g g'
  go_wp2_with fail
  go_region
  go_wp2_with fail
  refine bodyPost_ret (v := .tuple #[.slice none 0 0, .agg #[.int .i64 r1, .int .i64 r2]]) (by simp [results, Try.results67, go_sem, t0, t1, l3]) rfl ⟨rfl, ?_⟩
  exact ((below_put2 HB.out (g := w.heap.size + 1) (by omega) _ _).alloc (by simp; omega) _).drew
/-- What elim.stages tells: the stages, or a fault. -/
def stagesF (vars : Int) (xss : List (List Int)) (vs : List Int) : List (List (List Int)) × Int × Int :=
  if (belowF vs 0).1 ≠ 0 then ([], belowF vs 0) else
    if (goneF vars vs (normF xss) [normF xss] 0).2 < vs.length then ([], 10, (goneF vars vs (normF xss) [normF xss] 0).2) else ((goneF vars vs (normF xss) [normF xss] 0).1, 0, 0)

set_option maxHeartbeats 8000000 in
set_option maxRecDepth 100000 in
theorem stages_own (A B : Option Addr) (n c m d : Nat) (xss : List (List Int)) (vs : List Int) (vars : Int) (w : World) (h : Grid w A n c xss) (hv : I64 vars) (h' : Ints w B m d vs) (hbs : Hid (besideR vars xss vs = (0, 0))) (R : List (List (List Int))) (r1 r2 : Int) (hR : Hid (stagesF vars xss vs = (R, r1, r2))) :
    Calls Try.prog 67 #[.agg #[.int .i64 vars, .slice A n c], .slice B m d] w (fun e w' => ∃ A' n' c', e = .returned (.tuple #[.slice A' n' c', .agg #[.int .i64 r1, .int .i64 r2]]) ∧ OwnQ w' w.heap.size A' n' c' R ∧ Below w.heap.size w w') := by
  have hbd := h.bd
  have hbd' := h'.bd
  have hlen := Lib.hid h.len
  have hlv := Lib.hid h'.len
  obtain ⟨_, hok, hlits⟩ := besideR_ok (vars := vars) (xss := xss) (l := vs) (by rw [hbs.out])
  obtain ⟨_, v0, v1, hn400, hrows⟩ := checkC_ok hok
  have hn4 : n ≤ 400 := by have := hlen.out; omega
  have hm : m ≤ 120 := by have h1 := hlits.len_le v0; rw [hlv.out] at h1; omega
  have HLI := Lib.hid hlits
  have G := Lib.hid h
  have HV := Lib.hid h'
  obtain ⟨p1, p2, hp⟩ : ∃ a b, Hid (belowF vs 0 = (a, b)) := ⟨_, _, rfl⟩
  clear h h' hlits hrows hn400
  go_enter Try.func67, Try.ntmps67
  go_wp2_with fail
  refine (both_any _ _ _ _ _ _ xss vs vars _ (G.out.keep (below_alloc (below_new _ _) _)) hv (HV.out.keep (below_alloc (below_new _ _) _)) 0 0 hbs).mono ?_
  rintro e w1 ⟨rfl, hb1⟩
  obtain ⟨K_c0, K_r0, B_w1, l_w1⟩ := two_blks hb1
  have hbx := below_new w1 (.cells #[.int .i64 0, .int .i64 0] 28)
  obtain ⟨w0, hw0⟩ : ∃ w0 : World, w0 = w1.alloc (.cells #[.int .i64 0, .int .i64 0] 28) := ⟨_, rfl⟩
  rw [← hw0] at hbx
  have KC := Lib.hid (K_c0.keep hbx)
  have KR := Lib.hid (K_r0.keep hbx)
  have HB := Lib.hid (below_next B_w1 hbx)
  have HW0 := Lib.hid hw0
  clear hb1 K_c0 K_r0 B_w1 hbx hw0
  go_wp2_with fail
  rw [← HW0.out]
  clear HW0
  go_loopw [22] (fun s wr => ∃ i : Nat, i ≤ m ∧ s = .int .i64 i ∧ Hid (belowF (vs.drop i) i = (p1, p2)) ∧ Hid (wr = w0)) (fun s _ => m - (intOf s).toNat)
  case atStart => exact ⟨0, Nat.zero_le _, rfl, hp, rfl⟩
  case round =>
    obtain ⟨i, hi, rfl, hgo, hw⟩ := hrel
    obtain rfl : w0 = wr := hw.out.symm
    have k30 := KR.out.cell 0
    have k31 := KR.out.cell 1
    have g30 := KR.out.frozen 0
    have g31 := KR.out.frozen 1
    simp at k30 k31
    have lw3 := KR.out.lt
    by_cases hlt : i < m
    · obtain ⟨b, off, v, rfl, hb, hcv, u1, u2, hvk⟩ := (HV.out.keep HB.out).round hlt
      have hgo2 : Hid ((if v < 0 then ((3 : Int), -1 - (i : Int)) else belowF (vs.drop (i + 1)) (i + 1)) = (p1, p2)) := by have := hgo.out; rw [drop_cons_of hvk.out, belowF] at this; exact this
      have y1 : (0 : Int) ≤ (i : Int) := by omega
      have y2 : (i : Int) < (m : Int) := by omega
      by_cases hneg : v < 0
      · obtain ⟨hp1, hp2⟩ : 3 = p1 ∧ -1 - (i : Int) = p2 := by have := hgo2.out; rw [if_pos hneg] at this; simpa using this
        obtain ⟨rfl, rfl, rfl⟩ : [] = R ∧ 3 = r1 ∧ -1 - (i : Int) = r2 := by have := hR.out; rw [stagesF, hp.out, ← hp1, ← hp2, if_pos (show ((3 : Int), -1 - (i : Int)).1 ≠ 0 by simp)] at this; simpa using this
        obtain ⟨q0, q1⟩ := KR.out.put2 (.int .i64 3) (.int .i64 (-1 - (i : Int)))
        have Q0 := Lib.hid q0
        have Q1 := Lib.hid q1
        have BF := Lib.hid (below_put2 HB.out (g := w.heap.size + 1) (by omega) (.int .i64 3) (.int .i64 (-1 - (i : Int))))
        clear q0 q1 hp1 hp2
        go_wp2_with fail
        exact bodyPost_ret (v := .tuple #[.slice none 0 0, .agg #[.int .i64 3, .int .i64 (-1 - (i : Int))]]) (by simp [results, Try.results67, go_sem, Q0.out, Q1.out]) rfl ⟨none, 0, 0, rfl, ⟨[], Own.nil _ _ _, rfl, by simp⟩, BF.out⟩
      · go_wp2_with fail
        go_roundw
        case rel => exact ⟨i + 1, by omega, by go_num, by have := hgo2.out; rw [if_neg hneg] at this; exact this, by first | rfl | trivial⟩
        case measure => simp [intOf]; omega
    · obtain ⟨rfl, rfl⟩ : 0 = p1 ∧ 0 = p2 := by have := hgo.out; rw [List.drop_of_length_le (by rw [hlv.out]; omega), belowF] at this; simpa using this
      have HVS : Hid (∀ v ∈ vs, 1 ≤ v ∧ v ≤ vars) := fun v hv' => by have h1 := (belowF_ok vs 0 (by rw [hp.out])).2 v hv'; have h2 := HLI.out.1 v hv'; omega
      obtain ⟨RR, k, hgn⟩ : ∃ a b, Hid (goneF vars vs (normF xss) [normF xss] 0 = (a, b)) := ⟨_, _, rfl⟩
      have hR2 : Hid ((if k < m then ([], (10 : Int), (k : Int)) else (RR, 0, 0)) = (R, r1, r2)) := by have := hR.out; rw [stagesF, hp.out, hgn.out, hlv.out, if_neg (by simp)] at this; exact this
      obtain ⟨_, _, _, _, hrows⟩ := checkC_ok hok
      have HTD : Hid (Tidy vars (normF xss)) := norm_tidy hrows
      have HSB : Hid (∀ xs ∈ xss, ∀ x ∈ xs, -1000000 ≤ x ∧ x ≤ 1000000) := fun xs hx x hx' => by have := (hrows xs hx).2.1 x hx'; omega
      have HWD : Hid (∀ xs ∈ xss, xs.length ≤ 1000000) := fun xs hx => by have := (hrows xs hx).1; omega
      obtain ⟨j0, hj0, hy0, hy1, hy2⟩ := info_parts grid_info
      have cc0 := KC.out.cell 0
      have cc1 := KC.out.cell 1
      simp at cc0 cc1
      have lcc := KC.out.lt
      clear hrows hgo hR
      go_wp2_with fail
      refine (normal_any _ _ _ xss w0 (G.out.keep HB.out) HSB.out HWD.out (by omega)).mono ?_
      rintro e w2 ⟨A1, n1, c1, rfl, hO1, hb2⟩
      have hl1 : Hid ((normF xss).length ≤ 400) := by have := normF_len xss; have := hlen.out; show _ ≤ _; omega
      have Q1 := Lib.hid (ownQ_one (w := w2) rfl hb2.size hO1)
      have B1 := Lib.hid (below_alloc hb2 (.cells #[.slice A1 n1 c1] 22))
      clear hO1 hb2 k30 k31 g30 g31 lw3 cc0 cc1 lcc
      go_wp2_with fail
      go_loopw [9, 39] (fun s6 s wr => ∃ (i na ca : Nat) (Aa : Option Addr) (all : List (List (List Int))) (l : List (List Int)), i ≤ m ∧ i < na ∧ na ≤ i + 1 ∧ s6 = .slice Aa na ca ∧ s = .int .i64 i ∧ Hid (OwnQ wr w0.heap.size Aa na ca all) ∧ Hid (all[i]? = some l) ∧ Hid (∀ x ∈ l, Lits vars x) ∧ Hid (l.length ≤ 400) ∧ Hid (goneF vars (vs.drop i) l all i = (RR, k)) ∧ Hid (Below w0.heap.size w0 wr)) (fun _ s _ => m - (intOf s).toNat)
      case atStart => exact ⟨0, 1, 1, some ⟨w2.heap.size, 0, none⟩, [normF xss], normF xss, Nat.zero_le _, by omega, by omega, rfl, rfl, Q1, rfl, fun x hx => (HTD.out.2 x hx).2, hl1, hgn, B1⟩
      case round =>
        clear Q1 B1 hgn hl1
        obtain ⟨i, na, ca, Aa, all, l, hi, hna, hna2, rfl, rfl, hQ, hal, hll, hl4, hgo, hbl⟩ := hrel
        have hwz := hbl.out.size
        have hwz0 := HB.out.size
        by_cases hlt : i < m
        · obtain ⟨b, off, v, hBe, hb, hcv, u1, u2, hvk⟩ := ((HV.out.keep HB.out).keep hbl.out).round hlt
          subst hBe
          obtain ⟨g, X, nx, cx, l', hAe, hgb, hgl, hcx, hX, hlk⟩ := hQ.out.round hna
          subst hAe
          obtain rfl : l' = l := by have := hlk.out; rw [hal.out] at this; cases this; rfl
          have hvb := HVS.out v (List.mem_of_getElem? hvk.out)
          have hnx : nx ≤ 400 := by have h1 := hX.len; have h2 := hl4.out; omega
          have GX := Lib.hid hX.grid
          have HEL : Hid (∀ x ∈ elimF l' v, Lits vars x) := elimF_lits hll.out
          have hmu := Lib.hid (much_iff v0 v1 HEL.out)
          have y1 : (0 : Int) ≤ (i : Int) := by omega
          have y2 : (i : Int) < (m : Int) := by omega
          have y3 : (i : Int) < (na : Int) := by omega
          have hgo2 : Hid ((if (checkC vars (elimF l' v)).1 ≠ 0 then (all, i) else goneF vars (vs.drop (i + 1)) (elimF l' v) (all ++ [elimF l' v]) (i + 1)) = (RR, k)) := by have := hgo.out; rw [drop_cons_of hvk.out, goneF] at this; exact this
          have HMUCH : Hid ((checkC vars (elimF l' v)).1 ≠ 0 → [] = R ∧ 10 = r1 ∧ (i : Int) = r2) := fun hne => by
            have h1 := hgo2.out
            rw [if_pos hne] at h1
            obtain ⟨rfl, rfl⟩ : all = RR ∧ i = k := by simpa using h1
            have h2 := hR2.out
            rw [if_pos hlt] at h2
            simpa using h2
          clear hX hgo
          go_wp2_with fail
          refine (without_own _ _ _ l' v vars _ GX.out hll.out v0 (by omega) hnx hvb.1 (by omega)).mono ?_
          rw [RetNorm_congr (m := outR l' v) (out_eq hll.out (by omega))]
          rintro e w9 ⟨L9, n9, c9, rfl, ho9, hb9⟩
          have O9 : Hid (OwnP 26 3 w9 wr.heap.size 0 L9 n9 c9 (elimF l' v)) := ho9
          have BLQ := Lib.hid (below_next hbl.out hb9)
          have Q9 := Lib.hid (hQ.out.keep hb9)
          obtain ⟨hl9, hn9c, hc9⟩ := ho9.len'
          have HL9 : Hid ((elimF l' v).length = n9) := hl9
          clear hb9 ho9 hl9 hQ hbl hcx hcv hgl hb
          by_cases h400 : 400 < n9
          · obtain ⟨rfl, rfl, rfl⟩ := HMUCH.out (fun e => by have := hmu.out.1 e; rw [HL9.out] at this; simp at this; omega)
            have KR9 := Lib.hid (KR.out.keep BLQ.out)
            have k30 := KR9.out.cell 0
            have k31 := KR9.out.cell 1
            have g30 := KR9.out.frozen 0
            have g31 := KR9.out.frozen 1
            simp at k30 k31
            have lw3 := KR9.out.lt
            obtain ⟨q0, q1⟩ := KR9.out.put2 (.int .i64 10) (.int .i64 i)
            have QQ0 := Lib.hid q0
            have QQ1 := Lib.hid q1
            have BF := Lib.hid (below_put2 (below_next HB.out BLQ.out) (g := w.heap.size + 1) (by omega) (.int .i64 10) (.int .i64 i))
            clear q0 q1
            go_wp2_with fail
            exact bodyPost_ret (v := .tuple #[.slice none 0 0, .agg #[.int .i64 10, .int .i64 i]]) (by simp [results, Try.results67, go_sem, QQ0.out, QQ1.out]) rfl ⟨none, 0, 0, rfl, ⟨[], Own.nil _ _ _, rfl, by simp⟩, BF.out⟩
          · obtain ⟨q, hq⟩ : ∃ q, Hid ((elimF l' v).any (fun x => decide (24 < x.length)) = q) := ⟨_, rfl⟩
            have HP : Hid (PredR 96 #[] (elimF l' v) (fun x => decide (24 < x.length)) w9) := by
              intro V Y ny cy y hV hy _
              have h1 := hy.bd
              have h2 := hy.len
              have := (wide_any Y ny cy V (by omega)).mono (fun _ _ hh => hh.v)
              rw [show decide (24 < (ny : Int)) = decide (24 < y.length) by rw [h2, decide_eq_decide]; omega] at this
              exact this
            go_wp2_with fail
            refine (containsFunc_rows _ _ _ (elimF l' v) _ O9.out.grid _ _ enters_wide _ HP.out q hq).mono ?_
            rintro e w10 ⟨rfl, hb10⟩
            have Q10 := Lib.hid (Q9.out.keep hb10)
            have O10 := Lib.hid (O9.out.keep hb10)
            replace BLQ := Lib.hid (below_next BLQ.out hb10)
            have hwz10 := BLQ.out.size
            clear hb10 Q9 O9 HP
            cases q
            · have hck : (checkC vars (elimF l' v)).1 = 0 := hmu.out.2 (by rw [HL9.out, hq.out]; simp; omega)
              have hgo3 : Hid (goneF vars (vs.drop (i + 1)) (elimF l' v) (all ++ [elimF l' v]) (i + 1) = (RR, k)) := by have := hgo2.out; rw [if_neg (by simpa using hck)] at this; exact this
              have hel4 : Hid ((elimF l' v).length ≤ 400) := by show _ ≤ _; rw [HL9.out]; omega
              obtain ⟨us, hu1, hu2⟩ := Q10.out
              have HU1 := Lib.hid (hu1.keep (below_new w10 (.cells #[.slice L9 n9 c9] 22)))
              have HU2 := Lib.hid (hu2.keep (below_new w10 (.cells #[.slice L9 n9 c9] 22)))
              have hal' := Lib.hid Q10.out.len.1
              have hSS := sl_one w10 22 (.slice L9 n9 c9) rfl
              clear hu1 hu2 hck
              go_wp2_with (first
                | (at_builtin
                   refine wpList_append_sl _ rfl (.tmp 59) (.tmp 61) _ rfl w0.heap.size 22 j0 _ 24 Try.underlying63 hj0 hy0 hy1 hy2 rfl (some ⟨g, 0, none⟩) na ca _ rfl HU1.out (some ⟨w10.heap.size, 0, none⟩) 1 1 _ rfl hSS (by simp [Value.oneCell']) (by simp only [maxLen]; omega) (by omega) (by simp; omega) ?_
                   intro L1 cL1 w6 hL1 hg1 hat1
                   have HP6 := Lib.hid (OwnQ.push HU1.out HU2.out ((O10.out.mono (base' := w0.heap.size) (by omega) (Nat.le_refl _)).keep (below_new _ _)) hL1 hg1)
                   have HB6 := Lib.hid (below_grown (below_alloc BLQ.out (.cells #[.slice L9 n9 c9] 22)) HU1.out (Nat.le_refl _) hg1)
                   clear hL1 hg1 hat1))
              go_roundw
              case rel => exact ⟨i + 1, na + 1, cL1, L1, all ++ [elimF l' v], elimF l' v, by omega, by omega, by omega, rfl, by go_num, HP6, by rw [List.getElem?_append_right (by rw [hal'.out]; omega), hal'.out, show i + 1 - na = 0 by omega]; rfl, HEL, hel4, hgo3, HB6⟩
              case measure => simp [intOf]; omega
            · obtain ⟨rfl, rfl, rfl⟩ := HMUCH.out (fun e => by have := hmu.out.1 e; rw [hq.out] at this; simp at this)
              have KR9 := Lib.hid (KR.out.keep BLQ.out)
              have k30 := KR9.out.cell 0
              have k31 := KR9.out.cell 1
              have g30 := KR9.out.frozen 0
              have g31 := KR9.out.frozen 1
              simp at k30 k31
              have lw3 := KR9.out.lt
              obtain ⟨q0, q1⟩ := KR9.out.put2 (.int .i64 10) (.int .i64 i)
              have QQ0 := Lib.hid q0
              have QQ1 := Lib.hid q1
              have BF := Lib.hid (below_put2 (below_next HB.out BLQ.out) (g := w.heap.size + 1) (by omega) (.int .i64 10) (.int .i64 i))
              clear q0 q1
              go_wp2_with fail
              exact bodyPost_ret (v := .tuple #[.slice none 0 0, .agg #[.int .i64 10, .int .i64 i]]) (by simp [results, Try.results67, go_sem, QQ0.out, QQ1.out]) rfl ⟨none, 0, 0, rfl, ⟨[], Own.nil _ _ _, rfl, by simp⟩, BF.out⟩
        · obtain ⟨rfl, rfl⟩ : all = RR ∧ i = k := by have := hgo.out; rw [List.drop_of_length_le (by rw [hlv.out]; omega), goneF] at this; simpa using this
          obtain ⟨rfl, rfl, rfl⟩ : all = R ∧ 0 = r1 ∧ 0 = r2 := by have := hR2.out; rw [if_neg hlt] at this; simpa using this
          have KR9 := Lib.hid (KR.out.keep hbl.out)
          have k30 := KR9.out.cell 0
          have k31 := KR9.out.cell 1
          have g30 := KR9.out.frozen 0
          have g31 := KR9.out.frozen 1
          simp at k30 k31
          have lw3 := KR9.out.lt
          have SI : Hid ((wr.setCell ⟨w.heap.size + 1, 0, none⟩ (.int .i64 0)).setCell ⟨w.heap.size + 1, 1, none⟩ (.int .i64 0) = wr) := by rw [setCell_id KR9.out rfl, setCell_id KR9.out rfl]; rfl
          have QF : Hid (OwnQ wr w.heap.size Aa na ca all) := by obtain ⟨us, q1, q2⟩ := hQ.out; exact ⟨us, q1.mono hwz0, q2.1, fun j u hu => by obtain ⟨a1, a2, a3, a4, a5, a6, a7⟩ := q2.2 j u hu; exact ⟨a1, a2, a3, a4, a5, a6, a7.mono hwz0 (Nat.le_refl _)⟩⟩
          have BF := Lib.hid (below_next HB.out hbl.out)
          go_wp2_with fail
          exact bodyPost_ret (v := .tuple #[.slice Aa na ca, .agg #[.int .i64 0, .int .i64 0]]) (by rw [SI.out]; simp [results, Try.results67, go_sem, k30, k31]) rfl ⟨Aa, na, ca, rfl, by rw [SI.out]; exact QF.out, by rw [SI.out]; exact BF.out⟩
end Go.Proofs.Ytecgmgidfjbamaa
