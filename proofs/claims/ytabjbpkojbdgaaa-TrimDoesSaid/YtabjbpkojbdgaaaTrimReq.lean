/- Contracts of trim's required. -/
import Derived.Test.YtabjbpkojbdgaaaTrimFn
import Derived.Test.YtabjbpkojbdgaaaWhy
namespace Go.Proofs.Ytabjbpkojbdgaaa
open Go.RowKit Go.Maps Go.WideMaps
set_option linter.unusedSimpArgs false

theorem bool_infoR : (Try.prog.info? 4).map (fun i => (i.zero, i.size, i.bytes)) = some (some (.bool false), 1, 1) := by kernel_rfl
theorem OwnP.kept {e t t' : TypeId} {w w' : World} {base low n c : Nat} {A : Option Addr} {xss : List (List Int)} {row : Option Nat} (h : OwnP e t w base low A n c xss) (hg : w.grownBy w' row) (hr : ∀ g, row = some g → low ≤ g ∧ Typed t' w g) (ne : e ≠ t') (nt : t ≠ t') : OwnP e t w' base low A n c xss := by
  obtain ⟨vs, h1, h2⟩ := h
  refine ⟨vs, h1.kept hg ?_, h2.kept hg hr nt⟩
  cases row with
  | none =>
    by_cases h0 : blockOf A = none
    · exact .inl h0
    · exact .inr h0
  | some g => exact h1.ne_typed (hr g rfl).2 ne
theorem required1_any (X : Option Addr) (n c : Nat) (xs : List Int) (w : World) (h : Ints w X n c xs) : Calls Try.prog 88 #[.slice X n c] w (RetV (.bool xs.isEmpty) w) := by
  have hl := h.len
  by_cases h0 : n = 0
  · subst h0
    have e : xs.isEmpty = true := by rw [List.isEmpty_iff_length_eq_zero]; exact hl
    rw [e]
    go_enter Try.func88, Try.ntmps88
    go_wp2_with fail
    go_ret
    exact ⟨rfl, Below.refl _ _⟩
  · have e : xs.isEmpty = false := by rw [Bool.eq_false_iff]; intro e; rw [List.isEmpty_iff_length_eq_zero] at e; omega
    have d : ((n : Int) == 0) = false := by rw [beq_eq_false_iff_ne]; omega
    rw [e]
    go_enter Try.func88, Try.ntmps88
    go_wp2_with fail
    go_ret
    exact ⟨rfl, Below.refl _ _⟩
theorem enters_required1 : Enters Try.prog 88 := enters_of Try.func88 (by kernel_rfl) rfl

/-- What is wrong with a proof that is to be trimmed. -/
def proofR (vars : Int) (xss : List (List Int)) (rs : List (Int × List Int)) : Int × Int :=
  if (whyS vars xss rs).2.1 ≠ 0 then (whyS vars xss rs).2 else if (whyS vars xss rs).1 ≠ -1 then (11, (whyS vars xss rs).1) else (0, 0)
def RetReq (xss : List (List Int)) (o : List Bool) (w : World) (e : Ending) (w' : World) : Prop :=
  ∃ L nl cl gb, e = .returned (.tuple #[.slice L nl cl, .slice (some ⟨gb, 0, none⟩) nl nl, .agg #[.int .i64 0, .int .i64 0]]) ∧ OwnP 25 3 w' (w.heap.size + 2) w.heap.size L nl cl xss ∧ Bools w' (some ⟨gb, 0, none⟩) nl nl o ∧ Below w.heap.size w w'

set_option maxHeartbeats 2000000 in
theorem required_wrong (A B : Option Addr) (n c m d : Nat) (xss : List (List Int)) (rs : List (Int × List Int)) (vars : Int) (w : World) (h : Grid w A n c xss) (hv : I64 vars) (h' : Steps w B m d rs) (r1 r2 : Int) (hr : Hid (proofR vars xss rs = (r1, r2))) (h0 : r1 ≠ 0) :
    Calls Try.prog 56 #[.agg #[.int .i64 vars, .slice A n c], .slice B m d] w (RetV (.tuple #[.slice none 0 0, .slice none 0 0, .agg #[.int .i64 r1, .int .i64 r2]]) w) := by
  obtain ⟨z, q1, q2, hz⟩ : ∃ z q1 q2, Hid (whyS vars xss rs = (z, q1, q2)) := ⟨_, _, _, rfl⟩
  have hr2 : Hid ((if q1 ≠ 0 then (q1, q2) else if z ≠ -1 then ((11 : Int), z) else (0, 0)) = (r1, r2)) := by have := hr.out; rw [proofR, hz.out] at this; exact this
  clear hr
  go_enter Try.func56, Try.ntmps56
  go_wp2_with fail
  refine (why_any _ _ _ _ _ _ xss rs vars _ (h.keep (below_alloc (below_new _ _) _)) hv (h'.keep (below_alloc (below_new _ _) _)) z q1 q2 hz).mono ?_
  rintro e w1 ⟨rfl, hb1⟩
  obtain ⟨K_c0, K_r0, B_w1, l_w1⟩ := two_blks hb1
  have KR := Lib.hid K_r0
  have HB1 := Lib.hid B_w1
  clear hb1 K_c0 K_r0 B_w1
  by_cases hq1 : q1 = 0
  · subst hq1
    have hz1 : z ≠ -1 := fun e => by have := hr2.out; rw [if_neg (by simp), if_neg (by simp [e])] at this; exact h0 (Prod.mk.inj this).1.symm
    obtain ⟨rfl, rfl⟩ : 11 = r1 ∧ z = r2 := by have := hr2.out; rw [if_neg (by simp), if_pos hz1] at this; simpa using this
    have d1 : (z == -1) = false := by rw [beq_eq_false_iff_ne]; exact hz1
    have d2 : (z != -1) = true := by simpa using hz1
    obtain ⟨q0, q9⟩ := KR.out.put2 (.int .i64 11) (.int .i64 z)
    have Q0 := Lib.hid q0
    have Q9 := Lib.hid q9
    have t0 := KR.out.cell 0
    have t1 := KR.out.cell 1
    have tf0 := KR.out.frozen 0
    have tf1 := KR.out.frozen 1
    simp at t0 t1
    have l3 := KR.out.lt
    have BF := Lib.hid (below_put2 HB1.out (g := w.heap.size + 1) (by omega) (.int .i64 11) (.int .i64 z))
    clear q0 q9
    go_wp2_with fail
    exact bodyPost_ret (v := .tuple #[.slice none 0 0, .slice none 0 0, .agg #[.int .i64 11, .int .i64 z]]) (by simp [results, Try.results56, go_sem, Q0.out, Q9.out, l3]) rfl ⟨rfl, below_alloc BF.out _⟩
  · obtain ⟨rfl, rfl⟩ : q1 = r1 ∧ q2 = r2 := by have := hr2.out; rw [if_pos hq1] at this; simpa using this
    have d1 : (q1 != 0) = true := by simpa using hq1
    have e0 := KR.out.cell 0
    have e1 := KR.out.cell 1
    have f0 := KR.out.frozen 0
    have f1 := KR.out.frozen 1
    simp at e0 e1
    have lr := KR.out.lt
    go_wp2_with fail
    go_region
    go_wp2_with fail
    refine bodyPost_ret (v := .tuple #[.slice none 0 0, .slice none 0 0, .agg #[.int .i64 q1, .int .i64 q2]]) (by simp [results, Try.results56, go_sem, e0, e1, lr]) rfl ⟨rfl, ?_⟩
    exact ((below_put2 HB1.out (g := w.heap.size + 1) (by omega) _ _).alloc (by simp; omega) _).drew

theorem whyS_parts {vars : Int} {xss : List (List Int)} {rs : List (Int × List Int)} {z r2 : Int} (h : whyS vars xss rs = (z, 0, r2)) : (stepsR vars xss rs).1 = 0 ∧ whyF vars rs.length xss rs 0 = z ∧ r2 = 0 := by
  rw [whyS] at h
  by_cases h1 : (stepsR vars xss rs).1 ≠ 0
  · rw [if_pos h1] at h; exfalso; apply h1; rw [(Prod.mk.inj h).2]
  · rw [if_neg h1] at h
    obtain ⟨h2, h3⟩ := Prod.mk.inj h
    exact ⟨by simpa using h1, h2, (Prod.mk.inj h3).2.symm⟩
theorem proofR_parts {vars : Int} {xss : List (List Int)} {rs : List (Int × List Int)} (h : proofR vars xss rs = (0, 0)) : whyS vars xss rs = (-1, 0, 0) ∧ (stepsR vars xss rs).1 = 0 ∧ whyF vars rs.length xss rs 0 = -1 := by
  obtain ⟨z, q1, q2, hz⟩ : ∃ z q1 q2, whyS vars xss rs = (z, q1, q2) := ⟨_, _, _, rfl⟩
  rw [proofR, hz] at h
  by_cases h1 : q1 = 0
  · subst h1
    by_cases h2 : z = -1
    · subst h2
      obtain ⟨g1, g2, g3⟩ := whyS_parts hz
      subst g3
      exact ⟨hz, g1, g2⟩
    · rw [if_neg (by simp), if_pos h2] at h
      simp at h
  · rw [if_pos h1] at h
    exact absurd (Prod.mk.inj h).1 h1

set_option maxHeartbeats 8000000 in
set_option maxRecDepth 100000 in
theorem required_own (A B : Option Addr) (n c m d : Nat) (xss : List (List Int)) (rs : List (Int × List Int)) (vars : Int) (w : World) (h : Grid w A n c xss) (hv : I64 vars) (h' : Steps w B m d rs) (hr : Hid (proofR vars xss rs = (0, 0))) (o : List Bool) (ho : Hid (wantedF vars xss rs = o)) :
    Calls Try.prog 56 #[.agg #[.int .i64 vars, .slice A n c], .slice B m d] w (RetReq (xss ++ learntF rs) o w) := by
  obtain ⟨hwhy, hst0, hacc⟩ := proofR_parts hr.out
  obtain ⟨_, hck, hm3, hrs⟩ := stepsR_ok hst0
  obtain ⟨_, v0, v1, hn400, hrows⟩ := checkC_ok hck
  obtain ⟨hfall, hany⟩ := why_row v0 rs xss xss 0 (fun c hc => (hrows c hc).2) (fun c hc => (hrows c hc).2) hrs (fun _ h => h) hacc
  obtain ⟨row, hrow⟩ : ∃ row, Hid (xss ++ learntF rs = row) := ⟨_, rfl⟩
  have hrl : Hid (∀ x ∈ row, Lits vars x) := fun x hx => by
    rw [← hrow.out] at hx
    rcases List.mem_append.1 hx with hx | hx
    · exact (hrows x hx).2
    · unfold learntF at hx
      obtain ⟨r, hr1, rfl⟩ := List.mem_map.1 hx
      exact (hrs r (List.mem_filter.1 hr1).1).2
  have hem : decide (0 ≤ emptyF row) = true := by unfold emptyF; rw [idxF_any, ← hrow.out]; exact hany
  have hem0 := of_decide_eq_true hem
  obtain ⟨fN, hfN⟩ : ∃ fN : Nat, emptyF row = (fN : Int) := ⟨(emptyF row).toNat, by omega⟩
  have HFN : Hid (idxF (fun x => x.isEmpty) row 0 = (fN : Int)) := hfN
  have hfl : fN < row.length := by
    rcases idxF_lt (fun x : List Int => x.isEmpty) row 0 with h3 | ⟨_, h3, _⟩
    · have := HFN.out; omega
    · have := HFN.out; omega
  have hWF : Hid (wantF vars row n (fN + 1) ((List.replicate row.length false).set fN true) = o) := by
    have := ho.out
    rw [wantedF, hrow.out, hfN, Int.toNat_natCast, h.len] at this
    exact this
  have hbd := h.bd
  have hbd' := h'.bd
  have hlen := Lib.hid h'.len
  have hlx := Lib.hid h.len
  have G := Lib.hid h
  have V := Lib.hid h'
  have HWS := Lib.hid hwhy
  have HRSL : Hid (∀ r ∈ rs, (r.1 = 1 ∨ r.1 = 2) ∧ Lits vars r.2) := hrs
  have hm3' : m ≤ 3000 := by have := hlen.out; omega
  have hn4 : n ≤ 400 := by have := hlx.out; omega
  have HLN : Hid (row.length ≤ 3400) := by
    show _ ≤ _
    rw [← hrow.out, List.length_append]
    have : (learntF rs).length ≤ rs.length := by unfold learntF; rw [List.length_map]; exact List.length_filter_le _ _
    omega
  have HFL := Lib.hid hfl
  obtain ⟨i0, hi0, hz0, hz1, hz2⟩ := info_parts row_info
  obtain ⟨ib, hib, hzb, hsb, hbb⟩ := info_parts bool_infoR
  obtain ⟨vs0, hvs0, hrp0⟩ := h.rowsP 3 (Nat.le_refl _)
  have HVS0 := Lib.hid hvs0
  have HRP0 := Lib.hid hrp0
  clear h h' hwhy hst0 hacc hck hrs hrows hfall hany hem hem0 hfN hfl hvs0 hrp0 hr ho hn400 hm3
  rw [hrow.out]
  go_enter Try.func56, Try.ntmps56
  go_wp2_with fail
  refine (why_any _ _ _ _ _ _ xss rs vars _ (G.out.keep (below_alloc (below_new _ _) _)) hv (V.out.keep (below_alloc (below_new _ _) _)) (-1) 0 0 HWS).mono ?_
  rintro e w1 ⟨rfl, hb1⟩
  obtain ⟨K_c0, K_r0, B_w1, l_w1⟩ := two_blks hb1
  have c0 := K_c0.cell 0
  have c1 := K_c0.cell 1
  simp at c0 c1
  have lc : w.heap.size < w1.heap.size := by omega
  have HB1 := Lib.hid B_w1
  have KC := Lib.hid K_c0
  have KR := Lib.hid K_r0
  clear hb1 K_c0 K_r0 B_w1
  obtain ⟨wa, hwa⟩ : ∃ wa : World, wa = w1.alloc (.cells #[.int .i64 0, .int .i64 0] 28) := ⟨_, rfl⟩
  have hbla : Hid (Below w1.heap.size w1 wa) := by rw [hwa]; exact below_new _ _
  have HB := Lib.hid (below_next HB1.out hbla.out)
  have HWA := Lib.hid hwa
  have hwa2 : Hid (w.heap.size + 2 ≤ wa.heap.size) := by have h1 := hbla.out.size; have h2 : wa.heap.size = w1.heap.size + 1 := by rw [hwa]; simp
                                                         show _ ≤ _; omega
  clear hwa
  go_wp2_with fail
  rw [← HWA.out]
  have hwsz := HB.out.size
  refine (clone_rows A n c w.heap.size xss wa vs0 (HVS0.out.keep HB.out) (HRP0.out.keep HB.out) (by omega) hwsz).mono ?_
  rintro e w2 ⟨L0, n0, cl0, rfl, hO0, hb2⟩
  have hl0 := hO0.len
  rw [hlx.out] at hl0
  subst hl0
  have O0 := Lib.hid hO0
  have B2 := Lib.hid hb2
  have hrow0 : Hid (xss ++ learntF (rs.drop 0) = row) := hrow
  clear HWA c0 c1 lc hO0 hb2 HVS0 HRP0
  go_wp2_with fail
  go_loopw [9, 36] (fun s9 s wr => ∃ (k nl cl : Nat) (L : Option Addr) (l : List (List Int)), k ≤ m ∧ s9 = .slice L nl cl ∧ s = .int .i64 k ∧ nl ≤ 400 + k ∧ Hid (OwnP 25 3 wr wa.heap.size w.heap.size L nl cl l) ∧ Hid (l ++ learntF (rs.drop k) = row) ∧ Hid (Below wa.heap.size wa wr)) (fun _ i _ => m - (intOf i).toNat)
  case atStart => exact ⟨0, n, cl0, L0, xss, Nat.zero_le _, rfl, rfl, by omega, O0, hrow0, B2⟩
  case round =>
    clear O0 B2 hrow0
    obtain ⟨k, nl, cl, L, l, hk, rfl, rfl, hnl, hO, hgo, hbl⟩ := hrel
    obtain ⟨hlnl, hlc, hlc2⟩ := hO.out.len'
    have hwr := hbl.out.size
    have HLNL := Lib.hid hlnl
    clear hlnl
    by_cases hlt : k < m
    · obtain ⟨b, off, kd, X, nx, cx, xs, X2, n2, c2, i3, i4, i5, X6, n6, c6, i7, i8, hBe, hb, s0, s1, s2, s3, s4, s5, s6, s7, s8, hkd, hxs, hrk⟩ := (V.out.keep (below_next HB.out hbl.out)).round hlt
      subst hBe
      have hAw : Away 3 w w.heap.size X nx := by
        obtain ⟨bb, oo, eB, hltb, hcc⟩ := V.out.at_ (by omega)
        cases eB
        obtain ⟨X', nx', cx', Xa, na, ca, j3, j4, j5, Xb, nb, cb, j7, j8, t0, t1, _, _, _, _, _, _, _, hI⟩ := hcc k _ hrk.out
        have e2 := keepBox (below_next HB.out hbl.out) t1
        rw [s1] at e2
        cases e2
        exact Away.old hI (Nat.le_refl _)
      have HAW := Lib.hid hAw
      obtain ⟨hkk, hxl⟩ := HRSL.out (kd, xs) (List.mem_of_getElem? hrk.out)
      have y1 : (0 : Int) ≤ (k : Int) := by omega
      have y2 : (k : Int) < (m : Int) := by omega
      have HXS := Lib.hid hxs
      have hgo2 : Hid (l ++ (if kd = 1 then xs :: learntF (rs.drop (k + 1)) else learntF (rs.drop (k + 1))) = row) := by have := hgo.out; rw [drop_cons_of hrk.out, learntF_cons] at this; exact this
      clear hxs hgo hxl hAw
      have hk12 : kd = 1 ∨ kd = 2 := hkk
      clear hkk
      rcases hk12 with rfl | rfl
      · have hgo3 : Hid ((l ++ [xs]) ++ learntF (rs.drop (k + 1)) = row) := by have := hgo2.out; rw [if_pos rfl] at this; simpa [Hid] using this
        obtain ⟨vs, hv1, hv2⟩ := hO.out
        obtain ⟨ws, hws⟩ : ∃ ws : World, ws = wr.alloc (.cells #[.int .i64 1, .slice X nx cx, .slice X2 n2 c2, .int .i64 i3, .int .i64 i4, .int .i64 i5, .slice X6 n6 c6, .int .i64 i7, .int .i64 i8] 102) := ⟨_, rfl⟩
        have hbs : Below wr.heap.size wr ws := by rw [hws]; exact below_new _ _
        have HWS2 := Lib.hid hws
        have HV1 := Lib.hid ((hv1.keep hbs).keep (below_new ws (.cells #[.slice X nx cx] 25)))
        have HV2 := Lib.hid ((hv2.keep hbs).keep (below_new ws (.cells #[.slice X nx cx] 25)))
        have hSS := sl_one ws 25 (.slice X nx cx) rfl
        have HSS := Lib.hid hSS
        have HBS := Lib.hid hbs
        have hzs : ws.heap.size = wr.heap.size + 1 := by rw [hws]; simp
        have HZS := Lib.hid hzs
        clear hv1 hv2 hbs hws hSS hgo2 hzs
        go_wp2_with (first
          | (at_builtin
             refine wpList_append_sl _ rfl (.tmp 43) (.tmp 46) _ rfl wa.heap.size 25 i0 _ 24 Try.underlying22 hi0 hz0 hz1 hz2 rfl L nl cl _ rfl (by rw [← HWS2.out]; exact HV1.out) (some ⟨wr.heap.size + 1, 0, none⟩) 1 1 _ rfl (by have h9 := HSS.out; rw [HZS.out, HWS2.out] at h9; exact h9) (by simp [Value.oneCell']) (by simp only [maxLen]; omega) (by omega) (by simp; omega) ?_
             intro L1 cL1 w6 hL1 hg1 hat1
             rw [← HWS2.out] at hg1
             have HP6 := Lib.hid (OwnP.push HV1.out HV2.out hwsz row_ne (HXS.out.keep (below_next HBS.out (below_new _ _))) (HAW.out.keep (below_next (below_next HB.out hbl.out) (below_next HBS.out (below_new _ _)))) hL1 hg1)
             have HB6 := Lib.hid (below_grown (below_alloc (below_next hbl.out HBS.out) (.cells #[.slice X nx cx] 25)) HV1.out (Nat.le_refl _) hg1)
             clear hL1 hg1 hat1))
        go_roundw
        case rel => exact ⟨k + 1, nl + 1, cL1, L1, l ++ [xs], by omega, rfl, by go_num, by omega, HP6, hgo3, HB6⟩
        case measure => simp [intOf] <;> omega
      · have hgo3 : Hid (l ++ learntF (rs.drop (k + 1)) = row) := by have := hgo2.out; rw [if_neg (by omega)] at this; exact this
        clear hgo2
        go_wp2_with fail
        go_roundw
        case rel => exact ⟨k + 1, nl, cl, L, l, by omega, rfl, by go_num, by omega, hO.out.keep (below_new _ _), hgo3, below_alloc hbl.out _⟩
        case measure => simp [intOf] <;> omega
    · obtain rfl : l = row := by have := hgo.out; rw [List.drop_of_length_le (by rw [hlen.out]; omega)] at this; simpa [learntF] using this
      have hfl2 : fN < nl := by have h1 := HLNL.out; have h2 := HFL.out; omega
      clear hgo
      go_wp2_with (first
        | (at_make
           refine wpList_make_full _ rfl (.tmp 50) (.tmp 50) 44 rfl wa.heap.size 4 ib _ 1 Try.underlying44 hib hzb hsb _ _ _ _ nl rfl rfl rfl rfl (by rw [hbb]; omega) (by simp only [maxLen]; omega) hwr ?_
           intro w5 hown5 hg5
           have OB5 : Hid (Own 4 w5 wa.heap.size (some ⟨wr.heap.size, 0, none⟩) nl nl ((List.replicate l.length false).map Value.bool)) := by
             rw [HLNL.out, List.map_replicate]
             have e : (madeCells (Value.bool false).cells (nl * 1)).toList = List.replicate nl (Value.bool false) := by rw [Nat.mul_one]; exact toList_madeCells_one _ _
             rw [← e]
             exact hown5
           have O5 := Lib.hid (hO.out.kept (t' := 4) hg5 (fun g hg => by cases hg) (by decide) (by decide))
           have B5 : Hid (Below wa.heap.size wa w5) := hbl.out.grown hg5 hwr (fun k hk => by cases hk)
           clear hown5 hg5))
      obtain ⟨gb, hgb⟩ : ∃ gb, gb = wr.heap.size := ⟨_, rfl⟩
      rw [← hgb] at OB5 ⊢
      clear hgb hO hbl
      have hgr5 := O5.out.grid
      have HP : Hid (PredR 88 #[] l (fun x => x.isEmpty) w5) := by
        intro V' Y ny cy y hV hy hm
        exact required1_any Y ny cy y V' hy
      refine (indexFunc_rows L nl cl l w5 hgr5 88 #[] enters_required1 (fun x => x.isEmpty) HP.out (fN : Int) HFN).mono ?_
      rintro e w6 ⟨rfl, hb6⟩
      have OB6 := Lib.hid (OB5.out.keep hb6)
      have O6 := Lib.hid (O5.out.keep hb6)
      have B6 := Lib.hid (below_next B5.out hb6)
      clear hb6 hgr5 OB5 O5 B5
      obtain ⟨g', u, hge, hgl, hgz, hgc, hgf, hgu⟩ := OB6.out.at_ hfl2
      cases hge
      have z1 : (0 : Int) ≤ (fN : Int) := by omega
      have z2 : (fN : Int) < (nl : Int) := by omega
      have OB7 : Hid (Own 4 (w6.setCell ⟨gb, fN, none⟩ (.bool true)) wa.heap.size (some ⟨gb, 0, none⟩) nl nl (((List.replicate l.length false).set fN true).map Value.bool)) := by
        rw [List.map_set]; exact OB6.out.set_ fN (.bool true)
      have O7 := Lib.hid (O6.out.kept (OB6.out.grown_set fN (.bool true)) (fun g hg => by cases hg; exact ⟨by omega, Typed.of_own OB6.out⟩) (by decide) (by decide))
      have B7 : Hid (Below wa.heap.size wa (w6.setCell ⟨gb, fN, none⟩ (.bool true))) := B6.out.setCell hgl _
      have hgzc : gb ≠ w.heap.size := by have := hwa2.out; omega
      go_wp2_with fail
      clear OB6 O6 B6 hgc hgf hgu HP HFN
      have hq0 : Hid (wantF vars l n (fN + 1) ((List.replicate l.length false).set fN true) = o) := hWF
      have hlen0 : Hid (((List.replicate l.length false).set fN true).length = nl) := by show _ = _; rw [List.length_set, List.length_replicate]; exact HLNL.out
      go_loopw [14] (fun s14 wz => ∃ (q : Nat) (o' : List Bool), q ≤ fN + 1 ∧ s14 = .int .i64 ((q : Int) - 1) ∧ Hid (Own 4 wz wa.heap.size (some ⟨gb, 0, none⟩) nl nl (o'.map Value.bool)) ∧ Hid (OwnP 25 3 wz wa.heap.size w.heap.size L nl cl l) ∧ Hid (Below wa.heap.size wa wz) ∧ Hid (wantF vars l n q o' = o)) (fun i _ => (intOf i + 1).toNat)
      case atStart => exact ⟨fN + 1, _, Nat.le_refl _, by go_num, OB7, O7, B7, hq0⟩
      case round =>
        clear OB7 O7 B7 hq0 hlen0
        obtain ⟨q, o', hq, rfl, hOb, hOz, hBz, hW⟩ := hrel
        obtain ⟨wz, hwz⟩ : ∃ wz : World, wz = wr := ⟨_, rfl⟩
        subst hwz
        have KCz := (KC.out.keep (below_next hbla.out hBz.out)).cell 1
        simp at KCz
        have zcz := (cell_lt KCz).1
        by_cases hend : q = 0 ∨ q ≤ n
        · obtain rfl : o' = o := by
            have := hW.out
            rcases hend with h0 | h0
            · subst h0; exact this
            · cases q with
              | zero => exact this
              | succ i => rw [wantF, if_pos (by omega)] at this; exact this
          have dend : ¬ (n : Int) ≤ (q : Int) - 1 := by omega
          clear hW
          have KRz := KR.out.keep (below_next hbla.out hBz.out)
          have e0 := KRz.cell 0
          have e1 := KRz.cell 1
          have f0 := KRz.frozen 0
          have f1 := KRz.frozen 1
          simp at e0 e1
          have lr := KRz.lt
          have SI : Hid ((wz.setCell ⟨w.heap.size + 1, 0, none⟩ (.int .i64 0)).setCell ⟨w.heap.size + 1, 1, none⟩ (.int .i64 0) = wz) := by rw [setCell_id KRz rfl, setCell_id KRz rfl]; rfl
          have BF := Lib.hid (below_next HB1.out (below_next hbla.out hBz.out))
          clear KRz
          go_wp2_with fail
          exact bodyPost_ret (v := .tuple #[.slice L nl cl, .slice (some ⟨gb, 0, none⟩) nl nl, .agg #[.int .i64 0, .int .i64 0]]) (by rw [SI.out]; simp [results, Try.results56, go_sem, e0, e1]) rfl (by rw [SI.out]; exact ⟨L, nl, cl, gb, rfl, hOz.out.mono hwa2.out (Nat.le_refl _), hOb.out.sl, BF.out⟩)
        · obtain ⟨i, rfl⟩ : ∃ i, q = i + 1 := ⟨q - 1, by omega⟩
          have hni : n ≤ i := by omega
          have hil : i < nl := by omega
          have ei : ((i + 1 : Nat) : Int) - 1 = (i : Int) := by omega
          rw [ei]
          obtain ⟨gx, u, hgx, hgl2, hgz2, hgc2, hgf2, hgu2⟩ := hOb.out.at_ hil
          cases hgx
          obtain ⟨bq, hbq, rfl⟩ : ∃ bq, o'[i]? = some bq ∧ Value.bool bq = u := by have := hgu2.out; rwa [List.getElem?_map, Option.map_eq_some_iff] at this
          have hW2 : Hid (wantF vars l n i (if bq = true then markF o' (causesF vars l i) else o') = o) := by
            have := hW.out
            rw [wantF, if_neg (by omega), List.getD_eq_getElem?_getD, hbq] at this
            exact this
          have z3 : (0 : Int) ≤ (i : Int) := by omega
          have z4 : (i : Int) < (nl : Int) := by omega
          have z5 : (n : Int) ≤ (i : Int) := by omega
          clear hW hbq hgu2
          cases bq
          · have hW3 : Hid (wantF vars l n i o' = o) := by simpa [Hid] using hW2.out
            clear hW2
            go_wp2_with fail
            go_roundw
            case rel => exact ⟨i, o', by omega, by go_num, hOb, hOz, hBz, hW3⟩
            case measure => simp [intOf] <;> omega
          · obtain ⟨ks, hks⟩ : ∃ ks, Hid (causesF vars l i = ks) := ⟨_, rfl⟩
            have hKR : Hid (∀ x ∈ ks, 0 ≤ x ∧ x < i) := fun x hx => causes_lt v0 hrl.out (i := i) (by rw [HLNL.out]; exact hil) x (by rw [hks.out]; exact hx)
            obtain ⟨oM, hoM⟩ : ∃ oM, Hid (markF o' ks = oM) := ⟨_, rfl⟩
            have hW3 : Hid (wantF vars l n i oM = o) := by have := hW2.out; rw [if_pos rfl, hks.out, hoM.out] at this; exact this
            have hgrz := Lib.hid hOz.out.grid
            clear hW2
            go_wp2_with fail
            refine (causes_any wz L nl cl l i vars hgrz.out hil v0 (by omega) hrl.out (by omega) ks hks).mono ?_
            rintro e w8 ⟨A8, n8, c8, rfl, hK8, hb8⟩
            have OK8 := Lib.hid hK8
            have OB8 := Lib.hid (hOb.out.keep hb8)
            have O8 := Lib.hid (hOz.out.keep hb8)
            have B8 := Lib.hid (below_next hBz.out hb8)
            have hn8 : n8 ≤ 9223372036854775807 := by have h1 := hK8.sl.le; have h2 := hK8.sl.cap; unfold maxLen at h2; omega
            have hoM0 : Hid (markF o' (ks.drop 0) = oM) := hoM
            clear hK8 hb8 hgrz KCz zcz hgc2 hgf2 hgz2 hOb hOz hBz
            go_wp2_with fail
            go_loopw [73] (fun s wy => ∃ (j : Nat) (o2 : List Bool), j ≤ n8 ∧ s = .int .i64 j ∧ Hid (Own 4 wy wa.heap.size (some ⟨gb, 0, none⟩) nl nl (o2.map Value.bool)) ∧ Hid (OwnP 25 3 wy wa.heap.size w.heap.size L nl cl l) ∧ Hid (Below wa.heap.size wa wy) ∧ Hid (Own 3 wy wz.heap.size A8 n8 c8 (ks.map (Value.int .i64))) ∧ Hid (markF o2 (ks.drop j) = oM)) (fun i _ => n8 - (intOf i).toNat)
            case atStart => exact ⟨0, o', Nat.zero_le _, rfl, OB8, O8, B8, OK8, hoM0⟩
            case round =>
              clear OB8 O8 B8 OK8 hoM0
              obtain ⟨j, o2, hj, rfl, hOb, hOz, hBz, hOk, hmk⟩ := hrel
              by_cases hjn : j < n8
              · obtain ⟨b5, off5, x, hAe, hbb5, hcell5, x1, x2, hxk⟩ := (hOk.out.ints (fun x hx => by have := hKR.out x hx; unfold I64; omega)).round hjn
                have hxr := hKR.out x (List.mem_of_getElem? hxk.out)
                obtain ⟨xN, rfl⟩ : ∃ xN : Nat, x = (xN : Int) := ⟨x.toNat, by omega⟩
                have hmk2 : Hid (markF (o2.set xN true) (ks.drop (j + 1)) = oM) := by have := hmk.out; rw [drop_cons_of hxk.out] at this; exact this
                obtain ⟨gy, u2, hgy, hgl3, hgz3, hgc3, hgf3, hgu3⟩ := hOb.out.at_ (k := xN) (by omega)
                cases hgy
                have OB9 : Hid (Own 4 (wr.setCell ⟨gb, xN, none⟩ (.bool true)) wa.heap.size (some ⟨gb, 0, none⟩) nl nl ((o2.set xN true).map Value.bool)) := by
                  rw [List.map_set]; exact hOb.out.set_ xN (.bool true)
                have O9 := Lib.hid (hOz.out.kept (hOb.out.grown_set xN (.bool true)) (fun g hg => by cases hg; exact ⟨by omega, Typed.of_own hOb.out⟩) (by decide) (by decide))
                have B9 : Hid (Below wa.heap.size wa (wr.setCell ⟨gb, xN, none⟩ (.bool true))) := hBz.out.setCell hgl3 _
                have OK9 := Lib.hid (hOk.out.kept (hOb.out.grown_set xN (.bool true)) (hOk.out.ne_typed (Typed.of_own hOb.out) (by decide)))
                have z6 : (0 : Int) ≤ (xN : Int) := by omega
                have z7 : (xN : Int) < (nl : Int) := by omega
                have z8 : (0 : Int) ≤ (j : Int) := by omega
                have z9 : (j : Int) < (n8 : Int) := by omega
                subst hAe
                clear hmk hxk hgu3
                go_wp2_with fail
                go_roundw
                case rel => exact ⟨j + 1, o2.set xN true, by omega, by go_num, OB9, O9, B9, OK9, hmk2⟩
                case measure => simp [intOf] <;> omega
              · obtain rfl : o2 = oM := by have := hmk.out; rw [List.drop_of_length_le (by have := hOk.out.len; rw [List.length_map] at this; omega)] at this; exact this
                clear hmk
                go_wp2_with fail
                go_roundw
                case rel => exact ⟨i, o2, by omega, by go_num, hOb, hOz, hBz, hW3⟩
                case measure => simp [intOf] <;> omega
end Go.Proofs.Ytabjbpkojbdgaaa
