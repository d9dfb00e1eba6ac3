/- ResEndsAll: the texts TrimReq, ResOf, ResCheck, EndKit, Against, Heavy, ResEndsWalk, ResEndsLaw in one. -/
import Derived.Test.YtabjbpkojbdgaaaTrimFn
import Derived.Test.YtabjbpkojbdgaaaWhy
import Derived.Test.YtabjbpkojbdgaaaTrStep
import Derived.Test.YtabjbpkojbdgaaaResolve
import Derived.Test.YtabjbpkojbdgaaaCloneR
import Derived.Test.YtabjbpkojbdgaaaCnfB
import Derived.Test.YtabjbpkojbdgaaaTrips
import Derived.Test.YtabjbpkojbdgaaaBoxes
import Derived.Test.YtabjbpkojbdgaaaSteps
import Derived.Test.YtabjbpkojbdgaaaProg
import Derived.Test.YtabjbpkojbdgaaaBase
import Derived.Test.YtabjbpkojbdgaaaRows
import Derived.Test.YtabjbpkojbdgaaaOpen
/- Contracts of trim's required. -/
namespace Go.Proofs.Ytabjbpkojbdgaaa
open Go.RowKit Go.Maps Go.WideMaps
set_option linter.unusedSimpArgs false

theorem bool_infoR : (Try.prog.info? 4).map (fun i => (i.zero, i.size, i.bytes)) = some (some (.bool false), 1, 1) := by kernel_rfl
theorem OwnP.kept {e t t' : TypeId} {w w' : World} {base low n c : Nat} {A : Option Addr} {xss : List (List Int)} {row : Option Nat} (h : OwnP e t w base low A n c xss) (hg : w.grownBy w' row) (hr : ∀ g, row = some g → low ≤ g ∧ Typed t' w g) (ne : e ≠ t') (nt : t ≠ t') : OwnP e t w' base low A n c xss := by
  obtain ⟨vs, h1, h2⟩ := h
  refine ⟨vs, h1.kept hg ?_, h2.kept hg hr nt⟩
  cases row with
  | none =>
    by_cases h0 : blockOf A = none
    · exact .inl h0
    · exact .inr h0
  | some g => exact h1.ne_typed (hr g rfl).2 ne
theorem required1_any (X : Option Addr) (n c : Nat) (xs : List Int) (w : World) (h : Ints w X n c xs) : Calls Try.prog 88 #[.slice X n c] w (RetV (.bool xs.isEmpty) w) := by
  have hl := h.len
  by_cases h0 : n = 0
  · subst h0
    have e : xs.isEmpty = true := by rw [List.isEmpty_iff_length_eq_zero]; exact hl
    rw [e]
    go_enter Try.func88, Try.ntmps88
    go_wp2_with fail
    go_ret
    exact ⟨rfl, Below.refl _ _⟩
  · have e : xs.isEmpty = false := by rw [Bool.eq_false_iff]; intro e; rw [List.isEmpty_iff_length_eq_zero] at e; omega
    have d : ((n : Int) == 0) = false := by rw [beq_eq_false_iff_ne]; omega
    rw [e]
    go_enter Try.func88, Try.ntmps88
    go_wp2_with fail
    go_ret
    exact ⟨rfl, Below.refl _ _⟩
theorem enters_required1 : Enters Try.prog 88 := enters_of Try.func88 (by kernel_rfl) rfl

/-- What is wrong with a proof that is to be trimmed. -/
def proofR (vars : Int) (xss : List (List Int)) (rs : List (Int × List Int)) : Int × Int :=
  if (whyS vars xss rs).2.1 ≠ 0 then (whyS vars xss rs).2 else if (whyS vars xss rs).1 ≠ -1 then (11, (whyS vars xss rs).1) else (0, 0)
def RetReq (xss : List (List Int)) (o : List Bool) (w : World) (e : Ending) (w' : World) : Prop :=
  ∃ L nl cl gb, e = .returned (.tuple #[.slice L nl cl, .slice (some ⟨gb, 0, none⟩) nl nl, .agg #[.int .i64 0, .int .i64 0]]) ∧ OwnP 25 3 w' (w.heap.size + 2) w.heap.size L nl cl xss ∧ Bools w' (some ⟨gb, 0, none⟩) nl nl o ∧ Below w.heap.size w w'

set_option maxHeartbeats 2000000 in
theorem required_wrong (A B : Option Addr) (n c m d : Nat) (xss : List (List Int)) (rs : List (Int × List Int)) (vars : Int) (w : World) (h : Grid w A n c xss) (hv : I64 vars) (h' : Steps w B m d rs) (r1 r2 : Int) (hr : Hid (proofR vars xss rs = (r1, r2))) (h0 : r1 ≠ 0) :
    Calls Try.prog 56 #[.agg #[.int .i64 vars, .slice A n c], .slice B m d] w (RetV (.tuple #[.slice none 0 0, .slice none 0 0, .agg #[.int .i64 r1, .int .i64 r2]]) w) := by
  obtain ⟨z, q1, q2, hz⟩ : ∃ z q1 q2, Hid (whyS vars xss rs = (z, q1, q2)) := ⟨_, _, _, rfl⟩
  have hr2 : Hid ((if q1 ≠ 0 then (q1, q2) else if z ≠ -1 then ((11 : Int), z) else (0, 0)) = (r1, r2)) := by have := hr.out; rw [proofR, hz.out] at this; exact this
  clear hr
  go_enter Try.func56, Try.ntmps56
  go_wp2_with fail
  refine (why_any _ _ _ _ _ _ xss rs vars _ (h.keep (below_alloc (below_new _ _) _)) hv (h'.keep (below_alloc (below_new _ _) _)) z q1 q2 hz).mono ?_
  rintro e w1 ⟨rfl, hb1⟩
  obtain ⟨K_c0, K_r0, B_w1, l_w1⟩ := two_blks hb1
  have KR := Lib.hid K_r0
  have HB1 := Lib.hid B_w1
  clear hb1 K_c0 K_r0 B_w1
  by_cases hq1 : q1 = 0
  · subst hq1
    have hz1 : z ≠ -1 := fun e => by have := hr2.out; rw [if_neg (by simp), if_neg (by simp [e])] at this; exact h0 (Prod.mk.inj this).1.symm
    obtain ⟨rfl, rfl⟩ : 11 = r1 ∧ z = r2 := by have := hr2.out; rw [if_neg (by simp), if_pos hz1] at this; simpa using this
    have d1 : (z == -1) = false := by rw [beq_eq_false_iff_ne]; exact hz1
    have d2 : (z != -1) = true := by simpa using hz1
    obtain ⟨q0, q9⟩ := KR.out.put2 (.int .i64 11) (.int .i64 z)
    have Q0 := Lib.hid q0
    have Q9 := Lib.hid q9
    have t0 := KR.out.cell 0
    have t1 := KR.out.cell 1
    have tf0 := KR.out.frozen 0
    have tf1 := KR.out.frozen 1
    simp at t0 t1
    have l3 := KR.out.lt
    have BF := Lib.hid (below_put2 HB1.out (g := w.heap.size + 1) (by omega) (.int .i64 11) (.int .i64 z))
    clear q0 q9
    go_wp2_with fail
    exact bodyPost_ret (v := .tuple #[.slice none 0 0, .slice none 0 0, .agg #[.int .i64 11, .int .i64 z]]) (by simp [results, Try.results56, go_sem, Q0.out, Q9.out, l3]) rfl ⟨rfl, below_alloc BF.out _⟩
  · obtain ⟨rfl, rfl⟩ : q1 = r1 ∧ q2 = r2 := by have := hr2.out; rw [if_pos hq1] at this; simpa using this
    have d1 : (q1 != 0) = true := by simpa using hq1
    have e0 := KR.out.cell 0
    have e1 := KR.out.cell 1
    have f0 := KR.out.frozen 0
    have f1 := KR.out.frozen 1
    simp at e0 e1
    have lr := KR.out.lt
    go_wp2_with fail
    go_region
    go_wp2_with fail
    refine bodyPost_ret (v := .tuple #[.slice none 0 0, .slice none 0 0, .agg #[.int .i64 q1, .int .i64 q2]]) (by simp [results, Try.results56, go_sem, e0, e1, lr]) rfl ⟨rfl, ?_⟩
    exact ((below_put2 HB1.out (g := w.heap.size + 1) (by omega) _ _).alloc (by simp; omega) _).drew

theorem whyS_parts {vars : Int} {xss : List (List Int)} {rs : List (Int × List Int)} {z r2 : Int} (h : whyS vars xss rs = (z, 0, r2)) : (stepsR vars xss rs).1 = 0 ∧ whyF vars rs.length xss rs 0 = z ∧ r2 = 0 := by
  rw [whyS] at h
  by_cases h1 : (stepsR vars xss rs).1 ≠ 0
  · rw [if_pos h1] at h; exfalso; apply h1; rw [(Prod.mk.inj h).2]
  · rw [if_neg h1] at h
    obtain ⟨h2, h3⟩ := Prod.mk.inj h
    exact ⟨by simpa using h1, h2, (Prod.mk.inj h3).2.symm⟩
theorem proofR_parts {vars : Int} {xss : List (List Int)} {rs : List (Int × List Int)} (h : proofR vars xss rs = (0, 0)) : whyS vars xss rs = (-1, 0, 0) ∧ (stepsR vars xss rs).1 = 0 ∧ whyF vars rs.length xss rs 0 = -1 := by
  obtain ⟨z, q1, q2, hz⟩ : ∃ z q1 q2, whyS vars xss rs = (z, q1, q2) := ⟨_, _, _, rfl⟩
  rw [proofR, hz] at h
  by_cases h1 : q1 = 0
  · subst h1
    by_cases h2 : z = -1
    · subst h2
      obtain ⟨g1, g2, g3⟩ := whyS_parts hz
      subst g3
      exact ⟨hz, g1, g2⟩
    · rw [if_neg (by simp), if_pos h2] at h
      simp at h
  · rw [if_pos h1] at h
    exact absurd (Prod.mk.inj h).1 h1

set_option maxHeartbeats 8000000 in
set_option maxRecDepth 100000 in
theorem required_own (A B : Option Addr) (n c m d : Nat) (xss : List (List Int)) (rs : List (Int × List Int)) (vars : Int) (w : World) (h : Grid w A n c xss) (hv : I64 vars) (h' : Steps w B m d rs) (hr : Hid (proofR vars xss rs = (0, 0))) (o : List Bool) (ho : Hid (wantedF vars xss rs = o)) :
    Calls Try.prog 56 #[.agg #[.int .i64 vars, .slice A n c], .slice B m d] w (RetReq (xss ++ learntF rs) o w) := by
  obtain ⟨hwhy, hst0, hacc⟩ := proofR_parts hr.out
  obtain ⟨_, hck, hm3, hrs⟩ := stepsR_ok hst0
  obtain ⟨_, v0, v1, hn400, hrows⟩ := checkC_ok hck
  obtain ⟨hfall, hany⟩ := why_row v0 rs xss xss 0 (fun c hc => (hrows c hc).2) (fun c hc => (hrows c hc).2) hrs (fun _ h => h) hacc
  obtain ⟨row, hrow⟩ : ∃ row, Hid (xss ++ learntF rs = row) := ⟨_, rfl⟩
  have hrl : Hid (∀ x ∈ row, Lits vars x) := fun x hx => by
    rw [← hrow.out] at hx
    rcases List.mem_append.1 hx with hx | hx
    · exact (hrows x hx).2
    · unfold learntF at hx
      obtain ⟨r, hr1, rfl⟩ := List.mem_map.1 hx
      exact (hrs r (List.mem_filter.1 hr1).1).2
  have hem : decide (0 ≤ emptyF row) = true := by unfold emptyF; rw [idxF_any, ← hrow.out]; exact hany
  have hem0 := of_decide_eq_true hem
  obtain ⟨fN, hfN⟩ : ∃ fN : Nat, emptyF row = (fN : Int) := ⟨(emptyF row).toNat, by omega⟩
  have HFN : Hid (idxF (fun x => x.isEmpty) row 0 = (fN : Int)) := hfN
  have hfl : fN < row.length := by
    rcases idxF_lt (fun x : List Int => x.isEmpty) row 0 with h3 | ⟨_, h3, _⟩
    · have := HFN.out; omega
    · have := HFN.out; omega
  have hWF : Hid (wantF vars row n (fN + 1) ((List.replicate row.length false).set fN true) = o) := by
    have := ho.out
    rw [wantedF, hrow.out, hfN, Int.toNat_natCast, h.len] at this
    exact this
  have hbd := h.bd
  have hbd' := h'.bd
  have hlen := Lib.hid h'.len
  have hlx := Lib.hid h.len
  have G := Lib.hid h
  have V := Lib.hid h'
  have HWS := Lib.hid hwhy
  have HRSL : Hid (∀ r ∈ rs, (r.1 = 1 ∨ r.1 = 2) ∧ Lits vars r.2) := hrs
  have hm3' : m ≤ 3000 := by have := hlen.out; omega
  have hn4 : n ≤ 400 := by have := hlx.out; omega
  have HLN : Hid (row.length ≤ 3400) := by
    show _ ≤ _
    rw [← hrow.out, List.length_append]
    have : (learntF rs).length ≤ rs.length := by unfold learntF; rw [List.length_map]; exact List.length_filter_le _ _
    omega
  have HFL := Lib.hid hfl
  obtain ⟨i0, hi0, hz0, hz1, hz2⟩ := info_parts row_info
  obtain ⟨ib, hib, hzb, hsb, hbb⟩ := info_parts bool_infoR
  obtain ⟨vs0, hvs0, hrp0⟩ := h.rowsP 3 (Nat.le_refl _)
  have HVS0 := Lib.hid hvs0
  have HRP0 := Lib.hid hrp0
  clear h h' hwhy hst0 hacc hck hrs hrows hfall hany hem hem0 hfN hfl hvs0 hrp0 hr ho hn400 hm3
  rw [hrow.out]
  go_enter Try.func56, Try.ntmps56
  go_wp2_with fail
  refine (why_any _ _ _ _ _ _ xss rs vars _ (G.out.keep (below_alloc (below_new _ _) _)) hv (V.out.keep (below_alloc (below_new _ _) _)) (-1) 0 0 HWS).mono ?_
  rintro e w1 ⟨rfl, hb1⟩
  obtain ⟨K_c0, K_r0, B_w1, l_w1⟩ := two_blks hb1
  have c0 := K_c0.cell 0
  have c1 := K_c0.cell 1
  simp at c0 c1
  have lc : w.heap.size < w1.heap.size := by omega
  have HB1 := Lib.hid B_w1
  have KC := Lib.hid K_c0
  have KR := Lib.hid K_r0
  clear hb1 K_c0 K_r0 B_w1
  obtain ⟨wa, hwa⟩ : ∃ wa : World, wa = w1.alloc (.cells #[.int .i64 0, .int .i64 0] 28) := ⟨_, rfl⟩
  have hbla : Hid (Below w1.heap.size w1 wa) := by rw [hwa]; exact below_new _ _
  have HB := Lib.hid (below_next HB1.out hbla.out)
  have HWA := Lib.hid hwa
  have hwa2 : Hid (w.heap.size + 2 ≤ wa.heap.size) := by have h1 := hbla.out.size; have h2 : wa.heap.size = w1.heap.size + 1 := by rw [hwa]; simp
                                                         show _ ≤ _; omega
  clear hwa
  go_wp2_with fail
  rw [← HWA.out]
  have hwsz := HB.out.size
  refine (clone_rows A n c w.heap.size xss wa vs0 (HVS0.out.keep HB.out) (HRP0.out.keep HB.out) (by omega) hwsz).mono ?_
  rintro e w2 ⟨L0, n0, cl0, rfl, hO0, hb2⟩
  have hl0 := hO0.len
  rw [hlx.out] at hl0
  subst hl0
  have O0 := Lib.hid hO0
  have B2 := Lib.hid hb2
  have hrow0 : Hid (xss ++ learntF (rs.drop 0) = row) := hrow
  clear HWA c0 c1 lc hO0 hb2 HVS0 HRP0
  go_wp2_with fail
  go_loopw [9, 36] (fun s9 s wr => ∃ (k nl cl : Nat) (L : Option Addr) (l : List (List Int)), k ≤ m ∧ s9 = .slice L nl cl ∧ s = .int .i64 k ∧ nl ≤ 400 + k ∧ Hid (OwnP 25 3 wr wa.heap.size w.heap.size L nl cl l) ∧ Hid (l ++ learntF (rs.drop k) = row) ∧ Hid (Below wa.heap.size wa wr)) (fun _ i _ => m - (intOf i).toNat)
  case atStart => exact ⟨0, n, cl0, L0, xss, Nat.zero_le _, rfl, rfl, by omega, O0, hrow0, B2⟩
  case round =>
    clear O0 B2 hrow0
    obtain ⟨k, nl, cl, L, l, hk, rfl, rfl, hnl, hO, hgo, hbl⟩ := hrel
    obtain ⟨hlnl, hlc, hlc2⟩ := hO.out.len'
    have hwr := hbl.out.size
    have HLNL := Lib.hid hlnl
    clear hlnl
    by_cases hlt : k < m
    · obtain ⟨b, off, kd, X, nx, cx, xs, X2, n2, c2, i3, i4, i5, X6, n6, c6, i7, i8, hBe, hb, s0, s1, s2, s3, s4, s5, s6, s7, s8, hkd, hxs, hrk⟩ := (V.out.keep (below_next HB.out hbl.out)).round hlt
      subst hBe
      have hAw : Away 3 w w.heap.size X nx := by
        obtain ⟨bb, oo, eB, hltb, hcc⟩ := V.out.at_ (by omega)
        cases eB
        obtain ⟨X', nx', cx', Xa, na, ca, j3, j4, j5, Xb, nb, cb, j7, j8, t0, t1, _, _, _, _, _, _, _, hI⟩ := hcc k _ hrk.out
        have e2 := keepBox (below_next HB.out hbl.out) t1
        rw [s1] at e2
        cases e2
        exact Away.old hI (Nat.le_refl _)
      have HAW := Lib.hid hAw
      obtain ⟨hkk, hxl⟩ := HRSL.out (kd, xs) (List.mem_of_getElem? hrk.out)
      have y1 : (0 : Int) ≤ (k : Int) := by omega
      have y2 : (k : Int) < (m : Int) := by omega
      have HXS := Lib.hid hxs
      have hgo2 : Hid (l ++ (if kd = 1 then xs :: learntF (rs.drop (k + 1)) else learntF (rs.drop (k + 1))) = row) := by have := hgo.out; rw [drop_cons_of hrk.out, learntF_cons] at this; exact this
      clear hxs hgo hxl hAw
      have hk12 : kd = 1 ∨ kd = 2 := hkk
      clear hkk
      rcases hk12 with rfl | rfl
      · have hgo3 : Hid ((l ++ [xs]) ++ learntF (rs.drop (k + 1)) = row) := by have := hgo2.out; rw [if_pos rfl] at this; simpa [Hid] using this
        obtain ⟨vs, hv1, hv2⟩ := hO.out
        obtain ⟨ws, hws⟩ : ∃ ws : World, ws = wr.alloc (.cells #[.int .i64 1, .slice X nx cx, .slice X2 n2 c2, .int .i64 i3, .int .i64 i4, .int .i64 i5, .slice X6 n6 c6, .int .i64 i7, .int .i64 i8] 102) := ⟨_, rfl⟩
        have hbs : Below wr.heap.size wr ws := by rw [hws]; exact below_new _ _
        have HWS2 := Lib.hid hws
        have HV1 := Lib.hid ((hv1.keep hbs).keep (below_new ws (.cells #[.slice X nx cx] 25)))
        have HV2 := Lib.hid ((hv2.keep hbs).keep (below_new ws (.cells #[.slice X nx cx] 25)))
        have hSS := sl_one ws 25 (.slice X nx cx) rfl
        have HSS := Lib.hid hSS
        have HBS := Lib.hid hbs
        have hzs : ws.heap.size = wr.heap.size + 1 := by rw [hws]; simp
        have HZS := Lib.hid hzs
        clear hv1 hv2 hbs hws hSS hgo2 hzs
        go_wp2_with (first
          | (at_builtin
             refine wpList_append_sl _ rfl (.tmp 43) (.tmp 46) _ rfl wa.heap.size 25 i0 _ 24 Try.underlying22 hi0 hz0 hz1 hz2 rfl L nl cl _ rfl (by rw [← HWS2.out]; exact HV1.out) (some ⟨wr.heap.size + 1, 0, none⟩) 1 1 _ rfl (by have h9 := HSS.out; rw [HZS.out, HWS2.out] at h9; exact h9) (by simp [Value.oneCell']) (by simp only [maxLen]; omega) (by omega) (by simp; omega) ?_
             intro L1 cL1 w6 hL1 hg1 hat1
             rw [← HWS2.out] at hg1
             have HP6 := Lib.hid (OwnP.push HV1.out HV2.out hwsz row_ne (HXS.out.keep (below_next HBS.out (below_new _ _))) (HAW.out.keep (below_next (below_next HB.out hbl.out) (below_next HBS.out (below_new _ _)))) hL1 hg1)
             have HB6 := Lib.hid (below_grown (below_alloc (below_next hbl.out HBS.out) (.cells #[.slice X nx cx] 25)) HV1.out (Nat.le_refl _) hg1)
             clear hL1 hg1 hat1))
        go_roundw
        case rel => exact ⟨k + 1, nl + 1, cL1, L1, l ++ [xs], by omega, rfl, by go_num, by omega, HP6, hgo3, HB6⟩
        case measure => simp [intOf] <;> omega
      · have hgo3 : Hid (l ++ learntF (rs.drop (k + 1)) = row) := by have := hgo2.out; rw [if_neg (by omega)] at this; exact this
        clear hgo2
        go_wp2_with fail
        go_roundw
        case rel => exact ⟨k + 1, nl, cl, L, l, by omega, rfl, by go_num, by omega, hO.out.keep (below_new _ _), hgo3, below_alloc hbl.out _⟩
        case measure => simp [intOf] <;> omega
    · obtain rfl : l = row := by have := hgo.out; rw [List.drop_of_length_le (by rw [hlen.out]; omega)] at this; simpa [learntF] using this
      have hfl2 : fN < nl := by have h1 := HLNL.out; have h2 := HFL.out; omega
      clear hgo
      go_wp2_with (first
        | (at_make
           refine wpList_make_full _ rfl (.tmp 50) (.tmp 50) 44 rfl wa.heap.size 4 ib _ 1 Try.underlying44 hib hzb hsb _ _ _ _ nl rfl rfl rfl rfl (by rw [hbb]; omega) (by simp only [maxLen]; omega) hwr ?_
           intro w5 hown5 hg5
           have OB5 : Hid (Own 4 w5 wa.heap.size (some ⟨wr.heap.size, 0, none⟩) nl nl ((List.replicate l.length false).map Value.bool)) := by
             rw [HLNL.out, List.map_replicate]
             have e : (madeCells (Value.bool false).cells (nl * 1)).toList = List.replicate nl (Value.bool false) := by rw [Nat.mul_one]; exact toList_madeCells_one _ _
             rw [← e]
             exact hown5
           have O5 := Lib.hid (hO.out.kept (t' := 4) hg5 (fun g hg => by cases hg) (by decide) (by decide))
           have B5 : Hid (Below wa.heap.size wa w5) := hbl.out.grown hg5 hwr (fun k hk => by cases hk)
           clear hown5 hg5))
      obtain ⟨gb, hgb⟩ : ∃ gb, gb = wr.heap.size := ⟨_, rfl⟩
      rw [← hgb] at OB5 ⊢
      clear hgb hO hbl
      have hgr5 := O5.out.grid
      have HP : Hid (PredR 88 #[] l (fun x => x.isEmpty) w5) := by
        intro V' Y ny cy y hV hy hm
        exact required1_any Y ny cy y V' hy
      refine (indexFunc_rows L nl cl l w5 hgr5 88 #[] enters_required1 (fun x => x.isEmpty) HP.out (fN : Int) HFN).mono ?_
      rintro e w6 ⟨rfl, hb6⟩
      have OB6 := Lib.hid (OB5.out.keep hb6)
      have O6 := Lib.hid (O5.out.keep hb6)
      have B6 := Lib.hid (below_next B5.out hb6)
      clear hb6 hgr5 OB5 O5 B5
      obtain ⟨g', u, hge, hgl, hgz, hgc, hgf, hgu⟩ := OB6.out.at_ hfl2
      cases hge
      have z1 : (0 : Int) ≤ (fN : Int) := by omega
      have z2 : (fN : Int) < (nl : Int) := by omega
      have OB7 : Hid (Own 4 (w6.setCell ⟨gb, fN, none⟩ (.bool true)) wa.heap.size (some ⟨gb, 0, none⟩) nl nl (((List.replicate l.length false).set fN true).map Value.bool)) := by
        rw [List.map_set]; exact OB6.out.set_ fN (.bool true)
      have O7 := Lib.hid (O6.out.kept (OB6.out.grown_set fN (.bool true)) (fun g hg => by cases hg; exact ⟨by omega, Typed.of_own OB6.out⟩) (by decide) (by decide))
      have B7 : Hid (Below wa.heap.size wa (w6.setCell ⟨gb, fN, none⟩ (.bool true))) := B6.out.setCell hgl _
      have hgzc : gb ≠ w.heap.size := by have := hwa2.out; omega
      go_wp2_with fail
      clear OB6 O6 B6 hgc hgf hgu HP HFN
      have hq0 : Hid (wantF vars l n (fN + 1) ((List.replicate l.length false).set fN true) = o) := hWF
      have hlen0 : Hid (((List.replicate l.length false).set fN true).length = nl) := by show _ = _; rw [List.length_set, List.length_replicate]; exact HLNL.out
      go_loopw [14] (fun s14 wz => ∃ (q : Nat) (o' : List Bool), q ≤ fN + 1 ∧ s14 = .int .i64 ((q : Int) - 1) ∧ Hid (Own 4 wz wa.heap.size (some ⟨gb, 0, none⟩) nl nl (o'.map Value.bool)) ∧ Hid (OwnP 25 3 wz wa.heap.size w.heap.size L nl cl l) ∧ Hid (Below wa.heap.size wa wz) ∧ Hid (wantF vars l n q o' = o)) (fun i _ => (intOf i + 1).toNat)
      case atStart => exact ⟨fN + 1, _, Nat.le_refl _, by go_num, OB7, O7, B7, hq0⟩
      case round =>
        clear OB7 O7 B7 hq0 hlen0
        obtain ⟨q, o', hq, rfl, hOb, hOz, hBz, hW⟩ := hrel
        obtain ⟨wz, hwz⟩ : ∃ wz : World, wz = wr := ⟨_, rfl⟩
        subst hwz
        have KCz := (KC.out.keep (below_next hbla.out hBz.out)).cell 1
        simp at KCz
        have zcz := (cell_lt KCz).1
        by_cases hend : q = 0 ∨ q ≤ n
        · obtain rfl : o' = o := by
            have := hW.out
            rcases hend with h0 | h0
            · subst h0; exact this
            · cases q with
              | zero => exact this
              | succ i => rw [wantF, if_pos (by omega)] at this; exact this
          have dend : ¬ (n : Int) ≤ (q : Int) - 1 := by omega
          clear hW
          have KRz := KR.out.keep (below_next hbla.out hBz.out)
          have e0 := KRz.cell 0
          have e1 := KRz.cell 1
          have f0 := KRz.frozen 0
          have f1 := KRz.frozen 1
          simp at e0 e1
          have lr := KRz.lt
          have SI : Hid ((wz.setCell ⟨w.heap.size + 1, 0, none⟩ (.int .i64 0)).setCell ⟨w.heap.size + 1, 1, none⟩ (.int .i64 0) = wz) := by rw [setCell_id KRz rfl, setCell_id KRz rfl]; rfl
          have BF := Lib.hid (below_next HB1.out (below_next hbla.out hBz.out))
          clear KRz
          go_wp2_with fail
          exact bodyPost_ret (v := .tuple #[.slice L nl cl, .slice (some ⟨gb, 0, none⟩) nl nl, .agg #[.int .i64 0, .int .i64 0]]) (by rw [SI.out]; simp [results, Try.results56, go_sem, e0, e1]) rfl (by rw [SI.out]; exact ⟨L, nl, cl, gb, rfl, hOz.out.mono hwa2.out (Nat.le_refl _), hOb.out.sl, BF.out⟩)
        · obtain ⟨i, rfl⟩ : ∃ i, q = i + 1 := ⟨q - 1, by omega⟩
          have hni : n ≤ i := by omega
          have hil : i < nl := by omega
          have ei : ((i + 1 : Nat) : Int) - 1 = (i : Int) := by omega
          rw [ei]
          obtain ⟨gx, u, hgx, hgl2, hgz2, hgc2, hgf2, hgu2⟩ := hOb.out.at_ hil
          cases hgx
          obtain ⟨bq, hbq, rfl⟩ : ∃ bq, o'[i]? = some bq ∧ Value.bool bq = u := by have := hgu2.out; rwa [List.getElem?_map, Option.map_eq_some_iff] at this
          have hW2 : Hid (wantF vars l n i (if bq = true then markF o' (causesF vars l i) else o') = o) := by
            have := hW.out
            rw [wantF, if_neg (by omega), List.getD_eq_getElem?_getD, hbq] at this
            exact this
          have z3 : (0 : Int) ≤ (i : Int) := by omega
          have z4 : (i : Int) < (nl : Int) := by omega
          have z5 : (n : Int) ≤ (i : Int) := by omega
          clear hW hbq hgu2
          cases bq
          · have hW3 : Hid (wantF vars l n i o' = o) := by simpa [Hid] using hW2.out
            clear hW2
            go_wp2_with fail
            go_roundw
            case rel => exact ⟨i, o', by omega, by go_num, hOb, hOz, hBz, hW3⟩
            case measure => simp [intOf] <;> omega
          · obtain ⟨ks, hks⟩ : ∃ ks, Hid (causesF vars l i = ks) := ⟨_, rfl⟩
            have hKR : Hid (∀ x ∈ ks, 0 ≤ x ∧ x < i) := fun x hx => causes_lt v0 hrl.out (i := i) (by rw [HLNL.out]; exact hil) x (by rw [hks.out]; exact hx)
            obtain ⟨oM, hoM⟩ : ∃ oM, Hid (markF o' ks = oM) := ⟨_, rfl⟩
            have hW3 : Hid (wantF vars l n i oM = o) := by have := hW2.out; rw [if_pos rfl, hks.out, hoM.out] at this; exact this
            have hgrz := Lib.hid hOz.out.grid
            clear hW2
            go_wp2_with fail
            refine (causes_any wz L nl cl l i vars hgrz.out hil v0 (by omega) hrl.out (by omega) ks hks).mono ?_
            rintro e w8 ⟨A8, n8, c8, rfl, hK8, hb8⟩
            have OK8 := Lib.hid hK8
            have OB8 := Lib.hid (hOb.out.keep hb8)
            have O8 := Lib.hid (hOz.out.keep hb8)
            have B8 := Lib.hid (below_next hBz.out hb8)
            have hn8 : n8 ≤ 9223372036854775807 := by have h1 := hK8.sl.le; have h2 := hK8.sl.cap; unfold maxLen at h2; omega
            have hoM0 : Hid (markF o' (ks.drop 0) = oM) := hoM
            clear hK8 hb8 hgrz KCz zcz hgc2 hgf2 hgz2 hOb hOz hBz
            go_wp2_with fail
            go_loopw [73] (fun s wy => ∃ (j : Nat) (o2 : List Bool), j ≤ n8 ∧ s = .int .i64 j ∧ Hid (Own 4 wy wa.heap.size (some ⟨gb, 0, none⟩) nl nl (o2.map Value.bool)) ∧ Hid (OwnP 25 3 wy wa.heap.size w.heap.size L nl cl l) ∧ Hid (Below wa.heap.size wa wy) ∧ Hid (Own 3 wy wz.heap.size A8 n8 c8 (ks.map (Value.int .i64))) ∧ Hid (markF o2 (ks.drop j) = oM)) (fun i _ => n8 - (intOf i).toNat)
            case atStart => exact ⟨0, o', Nat.zero_le _, rfl, OB8, O8, B8, OK8, hoM0⟩
            case round =>
              clear OB8 O8 B8 OK8 hoM0
              obtain ⟨j, o2, hj, rfl, hOb, hOz, hBz, hOk, hmk⟩ := hrel
              by_cases hjn : j < n8
              · obtain ⟨b5, off5, x, hAe, hbb5, hcell5, x1, x2, hxk⟩ := (hOk.out.ints (fun x hx => by have := hKR.out x hx; unfold I64; omega)).round hjn
                have hxr := hKR.out x (List.mem_of_getElem? hxk.out)
                obtain ⟨xN, rfl⟩ : ∃ xN : Nat, x = (xN : Int) := ⟨x.toNat, by omega⟩
                have hmk2 : Hid (markF (o2.set xN true) (ks.drop (j + 1)) = oM) := by have := hmk.out; rw [drop_cons_of hxk.out] at this; exact this
                obtain ⟨gy, u2, hgy, hgl3, hgz3, hgc3, hgf3, hgu3⟩ := hOb.out.at_ (k := xN) (by omega)
                cases hgy
                have OB9 : Hid (Own 4 (wr.setCell ⟨gb, xN, none⟩ (.bool true)) wa.heap.size (some ⟨gb, 0, none⟩) nl nl ((o2.set xN true).map Value.bool)) := by
                  rw [List.map_set]; exact hOb.out.set_ xN (.bool true)
                have O9 := Lib.hid (hOz.out.kept (hOb.out.grown_set xN (.bool true)) (fun g hg => by cases hg; exact ⟨by omega, Typed.of_own hOb.out⟩) (by decide) (by decide))
                have B9 : Hid (Below wa.heap.size wa (wr.setCell ⟨gb, xN, none⟩ (.bool true))) := hBz.out.setCell hgl3 _
                have OK9 := Lib.hid (hOk.out.kept (hOb.out.grown_set xN (.bool true)) (hOk.out.ne_typed (Typed.of_own hOb.out) (by decide)))
                have z6 : (0 : Int) ≤ (xN : Int) := by omega
                have z7 : (xN : Int) < (nl : Int) := by omega
                have z8 : (0 : Int) ≤ (j : Int) := by omega
                have z9 : (j : Int) < (n8 : Int) := by omega
                subst hAe
                clear hmk hxk hgu3
                go_wp2_with fail
                go_roundw
                case rel => exact ⟨j + 1, o2.set xN true, by omega, by go_num, OB9, O9, B9, OK9, hmk2⟩
                case measure => simp [intOf] <;> omega
              · obtain rfl : o2 = oM := by have := hmk.out; rw [List.drop_of_length_le (by have := hOk.out.len; rw [List.length_map] at this; omega)] at this; exact this
                clear hmk
                go_wp2_with fail
                go_roundw
                case rel => exact ⟨i, o2, by omega, by go_num, hOb, hOz, hBz, hW3⟩
                case measure => simp [intOf] <;> omega
end Go.Proofs.Ytabjbpkojbdgaaa

/- Contracts of res.Of. (Printed by wip/tools/resof.py.) -/
namespace Go.Proofs.Ytabjbpkojbdgaaa
open Go.RowKit Go.Maps Go.WideMaps
set_option linter.unusedSimpArgs false

set_option maxHeartbeats 2000000 in
theorem resOf_wrong (A B : Option Addr) (n c m d : Nat) (xss : List (List Int)) (rs : List (Int × List Int)) (vars : Int) (w : World) (h : Grid w A n c xss) (hv : I64 vars) (h' : Steps w B m d rs) (r1 r2 : Int) (hr : Hid (proofR vars xss rs = (r1, r2))) (h0 : r1 ≠ 0) :
    Calls Try.prog 40 #[.agg #[.int .i64 vars, .slice A n c], .slice B m d] w (RetV (.tuple #[.slice none 0 0, .agg #[.int .i64 r1, .int .i64 r2]]) w) := by
  obtain ⟨z, q1, q2, hz⟩ : ∃ z q1 q2, Hid (whyS vars xss rs = (z, q1, q2)) := ⟨_, _, _, rfl⟩
  have hr2 : Hid ((if q1 ≠ 0 then (q1, q2) else if z ≠ -1 then ((11 : Int), z) else (0, 0)) = (r1, r2)) := by have := hr.out; rw [proofR, hz.out] at this; exact this
  clear hr
  go_enter Try.func40, Try.ntmps40
  go_wp2_with fail
  refine (why_any _ _ _ _ _ _ xss rs vars _ (h.keep (below_alloc (below_new _ _) _)) hv (h'.keep (below_alloc (below_new _ _) _)) z q1 q2 hz).mono ?_
  rintro e w1 ⟨rfl, hb1⟩
  obtain ⟨K_c0, K_r0, B_w1, l_w1⟩ := two_blks hb1
  have KR := Lib.hid K_r0
  have HB1 := Lib.hid B_w1
  clear hb1 K_c0 K_r0 B_w1
  by_cases hq1 : q1 = 0
  · subst hq1
    have hz1 : z ≠ -1 := fun e => by have := hr2.out; rw [if_neg (by simp), if_neg (by simp [e])] at this; exact h0 (Prod.mk.inj this).1.symm
    obtain ⟨rfl, rfl⟩ : 11 = r1 ∧ z = r2 := by have := hr2.out; rw [if_neg (by simp), if_pos hz1] at this; simpa using this
    have d1 : (z == -1) = false := by rw [beq_eq_false_iff_ne]; exact hz1
    have d2 : (z != -1) = true := by simpa using hz1
    obtain ⟨q0, q9⟩ := KR.out.put2 (.int .i64 11) (.int .i64 z)
    have Q0 := Lib.hid q0
    have Q9 := Lib.hid q9
    have t0 := KR.out.cell 0
    have t1 := KR.out.cell 1
    have tf0 := KR.out.frozen 0
    have tf1 := KR.out.frozen 1
    simp at t0 t1
    have l3 := KR.out.lt
    have BF := Lib.hid (below_put2 HB1.out (g := w.heap.size + 1) (by omega) (.int .i64 11) (.int .i64 z))
    clear q0 q9
    go_wp2_with fail
    exact bodyPost_ret (v := .tuple #[.slice none 0 0, .agg #[.int .i64 11, .int .i64 z]]) (by simp [results, Try.results40, go_sem, Q0.out, Q9.out, l3]) rfl ⟨rfl, below_alloc BF.out _⟩
  · obtain ⟨rfl, rfl⟩ : q1 = r1 ∧ q2 = r2 := by have := hr2.out; rw [if_pos hq1] at this; simpa using this
    have d1 : (q1 != 0) = true := by simpa using hq1
    have e0 := KR.out.cell 0
    have e1 := KR.out.cell 1
    have f0 := KR.out.frozen 0
    have f1 := KR.out.frozen 1
    simp at e0 e1
    have lr := KR.out.lt
    go_wp2_with fail
    go_region
    go_wp2_with fail
    refine bodyPost_ret (v := .tuple #[.slice none 0 0, .agg #[.int .i64 q1, .int .i64 q2]]) (by simp [results, Try.results40, go_sem, e0, e1, lr]) rfl ⟨rfl, ?_⟩
    exact ((below_put2 HB1.out (g := w.heap.size + 1) (by omega) _ _).alloc (by simp; omega) _).drew


/-- What a step leaves is as what it found. -/
theorem stpF_ok {vars : Int} (v0 : 0 ≤ vars) {known known' : List (List Int)} {nums nums' : List Int} {nx nx' : Int} {out out' : List R3} {x : List Int} (hk : ∀ c ∈ known, Lits vars c) (hn : ∀ q ∈ nums, 0 ≤ q ∧ q < nx) (hl : nums.length = known.length) (hx : Lits vars x)
    (h : stpF vars known nums nx out x = (known', nums', nx', out')) : (∀ c ∈ known', Lits vars c) ∧ (∀ q ∈ nums', 0 ≤ q ∧ q < nx') ∧ nx' - out'.length = nx - out.length ∧ known'.length ≤ known.length + 1 := by
  rw [stpF] at h
  by_cases ha : (askF vars known (negF x)).2.2 < 0
  · rw [if_pos ha] at h
    simp only [Prod.mk.injEq] at h
    obtain ⟨rfl, rfl, rfl, rfl⟩ := h
    exact ⟨hk, hn, rfl, by omega⟩
  · rw [if_neg ha] at h
    have ok := runF_ok v0 hk (vars.toNat + 1) (negF x) ((negF x).map fun _ => -1) hx.neg (by omega)
    generalize hrr : askF vars known (negF x) = rr at ha h
    unfold askF at hrr
    rw [hrr] at ok
    obtain ⟨t, y, a⟩ := rr
    simp only at ok ha h
    have hb := ok.bad (by omega)
    have hak : a.toNat < known.length := by omega
    have han : a.toNat < nums.length := by omega
    have hrow : Lits vars (known.getD a.toNat []) := by rw [List.getD_eq_getElem?_getD, List.getElem?_eq_getElem hak]; exact hk _ (List.getElem_mem hak)
    have hnum : 0 ≤ nums.getD a.toNat 0 ∧ nums.getD a.toNat 0 < nx := by rw [List.getD_eq_getElem?_getD, List.getElem?_eq_getElem han]; exact hn _ (List.getElem_mem han)
    obtain ⟨g0, g1, g2, g3, g4, _⟩ := trF_num (nums := nums) (t := t) (y := y) hk t.length (sortF (known.getD a.toNat [])) (nums.getD a.toNat 0) nx out hrow.sortF hnum.1 hnum.2
    generalize trF known nums t y t.length (sortF (known.getD a.toNat [])) (nums.getD a.toNat 0) nx out = q at h g0 g1 g2 g3 g4
    obtain ⟨q1, q2, q3, q4⟩ := q
    simp only at h g0 g1 g2 g3 g4
    simp only [Prod.mk.injEq] at h
    obtain ⟨rfl, rfl, rfl, rfl⟩ := h
    refine ⟨snoc_lits hk g0, fun z hz => ?_, g3, by simp⟩
    rcases List.mem_append.1 hz with hz | hz
    · have := hn z hz; omega
    · simp at hz; subst hz; exact ⟨g1, g2⟩
theorem natsF_snoc (k : Nat) : natsF (k + 1) = natsF k ++ [(k : Int)] := by unfold natsF; rw [List.range_succ, List.map_append]; rfl
def RetOf (R : Option (List R3)) (w : World) (e : Ending) (w' : World) : Prop :=
  match R with
  | some l => ∃ O no co, e = .returned (.tuple #[.slice O no co, .agg #[.int .i64 0, .int .i64 0]]) ∧ Trips w' O no co l ∧ Below w.heap.size w w'
  | none => e = .returned (.tuple #[.slice none 0 0, .agg #[.int .i64 2, .int .i64 (-1)]]) ∧ Below w.heap.size w w'

set_option maxHeartbeats 16000000 in
set_option maxRecDepth 100000 in
theorem resOf_own (A B : Option Addr) (n c m d : Nat) (xss : List (List Int)) (rs : List (Int × List Int)) (vars : Int) (w : World) (h : Grid w A n c xss) (hv : I64 vars) (h' : Steps w B m d rs) (hr : Hid (proofR vars xss rs = (0, 0))) (R : Option (List R3)) (hR : Hid (ofF vars xss rs = R)) :
    Calls Try.prog 40 #[.agg #[.int .i64 vars, .slice A n c], .slice B m d] w (RetOf R w) := by
  obtain ⟨hwhy, hst0, hacc⟩ := proofR_parts hr.out
  obtain ⟨_, hck, hm3, hrs⟩ := stepsR_ok hst0
  obtain ⟨_, v0, v1, hn400, hrows⟩ := checkC_ok hck
  have hbd := h.bd
  have hbd' := h'.bd
  have hlen := Lib.hid h'.len
  have hlx := Lib.hid h.len
  have G := Lib.hid h
  have V := Lib.hid h'
  have HWS := Lib.hid hwhy
  have HRSL : Hid (∀ r ∈ rs, (r.1 = 1 ∨ r.1 = 2) ∧ Lits vars r.2) := hrs
  have HXL : Hid (∀ x ∈ xss, Lits vars x) := fun x hx => (hrows x hx).2
  have hm3' : m ≤ 3000 := by have := hlen.out; omega
  have hn4 : n ≤ 400 := by have := hlx.out; omega
  have v9 : vars ≤ 1000 := by omega
  obtain ⟨i0, hi0, hz0, hz1, hz2⟩ := info_parts int_info
  clear h h' hwhy hst0 hacc hck hrs hrows hr hn400 hm3
  go_enter Try.func40, Try.ntmps40
  go_wp2_with fail
  refine (why_any _ _ _ _ _ _ xss rs vars _ (G.out.keep (below_alloc (below_new _ _) _)) hv (V.out.keep (below_alloc (below_new _ _) _)) (-1) 0 0 HWS).mono ?_
  rintro e w1 ⟨rfl, hb1⟩
  obtain ⟨K_c0, K_r0, B_w1, l_w1⟩ := two_blks hb1
  have c0 := K_c0.cell 0
  have c1 := K_c0.cell 1
  simp at c0 c1
  have lc : w.heap.size < w1.heap.size := by omega
  have HB1 := Lib.hid B_w1
  have KC := Lib.hid K_c0
  have KR := Lib.hid K_r0
  clear hb1 K_c0 K_r0 B_w1
  obtain ⟨wa, hwa⟩ : ∃ wa : World, wa = w1.alloc (.cells #[.int .i64 0, .int .i64 0] 28) := ⟨_, rfl⟩
  have hbla : Hid (Below w1.heap.size w1 wa) := by rw [hwa]; exact below_new _ _
  have HBA := Lib.hid (below_next HB1.out hbla.out)
  have HWA := Lib.hid hwa
  have hwa2 : Hid (w.heap.size + 2 ≤ wa.heap.size) := by have h1 := hbla.out.size; show _ ≤ _; omega
  have GA := Lib.hid (G.out.keep HBA.out)
  have VA := Lib.hid (V.out.keep HBA.out)
  have KCA := Lib.hid (KC.out.keep hbla.out)
  have KRA := Lib.hid (KR.out.keep hbla.out)
  clear hwa c0 c1 lc G V KC KR
  go_wp2_with fail
  rw [← HWA.out]
  clear HWA
  obtain ⟨vs0, hvs0, hrp0⟩ := GA.out.rowsP 3 (Nat.le_refl _)
  obtain ⟨wd, hwd⟩ : ∃ wd : World, wd = wa.drew := ⟨_, rfl⟩
  have hbd0 : Below wa.heap.size wa wd := by rw [hwd]; exact below_drewN _ 1
  have hS : wd.cell? ⟨w.heap.size, 1, none⟩ = some (.slice A n c) := by have := (KCA.out.keep hbd0).cell 1; simpa using this
  have HVS := Lib.hid (hvs0.keep hbd0)
  have HRP := Lib.hid (hrp0.keep hbd0)
  have HBD := Lib.hid hbd0
  have zcd := (KCA.out.keep hbd0).lt
  have hszd := hbd0.size
  clear hvs0 hrp0 hbd0
  refine wp_region_tail (fun w' => w'.cell? ⟨w.heap.size, 1, none⟩ = some (.slice A n c)) [] (by kernel_rfl) ?_
  change wpAnyT _ _ _ _ _ _ _ _ _ wa.drew
  rw [← hwd]
  clear hwd
  refine take0 (i := 0) (oi := _) (v := ?_) rfl (by kernel_rfl) (by kernel_rfl) (by kernel_rfl) (fun _ _ _ h => h) rfl (Or.inl ⟨by rfl, ?_⟩) (fun _ => hS) ?_
  rotate_left
  · intro w0; go_simp; with_reducible rfl
  (try simp only [Act.put, List.setIfInBounds_toArray, List.set_cons_zero, List.set_cons_succ])
  refine takeS (i := 1) (oi := _) (v := ?_) rfl (by kernel_rfl) (by kernel_rfl) (by kernel_rfl) (fun _ _ _ h => h) rfl (by kernel_rfl) (by kernel_rfl) (Or.inl ⟨by rfl, ?_⟩) hS ?_
  rotate_left
  · intro w0 hSw; (try dsimp only at hSw); go_simp; with_reducible rfl
  (try simp only [Act.put, List.setIfInBounds_toArray, List.set_cons_zero, List.set_cons_succ])
  refine take0 (i := 3) (oi := _) (v := ?_) rfl (by kernel_rfl) (by kernel_rfl) (by kernel_rfl) (fun _ _ _ h => h) rfl (Or.inl ⟨by rfl, ?_⟩) (fun _ => hS) ?_
  rotate_left
  · intro w0; go_simp; with_reducible rfl
  (try simp only [Act.put, List.setIfInBounds_toArray, List.set_cons_zero, List.set_cons_succ])
  refine takeS (i := 4) (oi := _) (v := ?_) rfl (by kernel_rfl) (by kernel_rfl) (by kernel_rfl) (fun _ _ _ h => h) rfl (by kernel_rfl) (by kernel_rfl) (Or.inl ⟨by rfl, ?_⟩) hS ?_
  rotate_left
  · intro w0 hSw; (try dsimp only at hSw); go_simp; with_reducible rfl
  (try simp only [Act.put, List.setIfInBounds_toArray, List.set_cons_zero, List.set_cons_succ])
  refine take0 (i := 5) (oi := _) (v := ?_) rfl (by kernel_rfl) (by kernel_rfl) (by kernel_rfl) (fun _ _ _ h => h) rfl (Or.inl ⟨by rfl, ?_⟩) (fun _ => hS) ?_
  rotate_left
  · intro w0; go_simp; with_reducible rfl
  (try simp only [Act.put, List.setIfInBounds_toArray, List.set_cons_zero, List.set_cons_succ])
  refine oneT (i := 2) (by kernel_rfl) rfl (by rfl) (fun Kq hK => ?_)
  go_simp
  refine (clone_rows A n c wa.heap.size xss wd vs0 HVS.out HRP.out (by omega) hszd).mono ?_
  rintro e w2 ⟨L0, n0, cl0, rfl, hO0, hb2⟩
  have hl0 := hO0.len
  rw [hlx.out] at hl0
  subst hl0
  have hO0' : Hid (OwnP 25 3 w2 wa.heap.size wa.heap.size L0 n cl0 xss) := hO0.mono hszd (Nat.le_refl _)
  have HB2 := Lib.hid (below_next HBD.out hb2)
  have hS2 := keepBox hb2 hS
  have zc2 := (cell_lt hS2).1
  clear hO0 hb2 HVS HRP hS zcd HBD
  refine hK _ _ (fun _ => hS2) ?_
  clear hK
  (try simp only [Act.put, List.setIfInBounds_toArray, List.set_cons_zero, List.set_cons_succ])
  refine take0 (i := 6) (oi := _) (v := ?_) rfl (by kernel_rfl) (by kernel_rfl) (by kernel_rfl) (fun _ _ _ h => h) rfl (Or.inl ⟨by rfl, ?_⟩) (fun _ => hS2) ?_
  rotate_left
  · intro w0; go_simp; with_reducible rfl
  (try simp only [Act.put, List.setIfInBounds_toArray, List.set_cons_zero, List.set_cons_succ])
  refine oneT (i := 7) (by kernel_rfl) rfl (by rfl) (fun Kq hK => ?_)
  go_simp
  obtain ⟨wb, hwb⟩ : ∃ z : World, z = w2.alloc (.cells #[.slice L0 n cl0, .slice none 0 0, .int .i64 n, .slice none 0 0] 111) := ⟨_, rfl⟩
  have hbb : Below w2.heap.size w2 wb := by rw [hwb]; exact below_new _ _
  have KX0 : Hid (Blk wb w2.heap.size 111 #[.slice L0 n cl0, .slice none 0 0, .int .i64 n, .slice none 0 0]) := by rw [hwb]; exact Blk.new _ _ _
  have hlo : wa.heap.size ≤ w2.heap.size := HB2.out.size
  obtain ⟨gx, hgx⟩ : ∃ q, q = w2.heap.size := ⟨_, rfl⟩
  have HT0 : Hid (TrG wa wb gx #[.slice L0 n cl0, .slice none 0 0, .int .i64 n, .slice none 0 0] L0 n cl0 none 0 0 none 0 0 xss (natsF 0) []) := by
    rw [hgx]
    exact ⟨below_next HB2.out hbb, hlo, KX0.out, (OwnF.of hO0'.out).keep hbb, Own.nil _ _ _, OwnR.nil _ _⟩
  have hS3 := keepBox hbb hS2
  rw [← hwb, ← hgx]
  clear hwb hbb KX0 hgx hO0'
  refine hK _ _ (fun _ => hS3) ?_
  clear hK
  (try simp only [Act.put, List.setIfInBounds_toArray, List.set_cons_zero, List.set_cons_succ])
  refine take0 (i := 8) (oi := _) (v := ?_) rfl (by kernel_rfl) (by kernel_rfl) (by kernel_rfl) (fun _ _ _ h => h) rfl (Or.inl ⟨by rfl, ?_⟩) (fun _ => hS3) ?_
  rotate_left
  · intro w0; go_simp; with_reducible rfl
  (try simp only [Act.put, List.setIfInBounds_toArray, List.set_cons_zero, List.set_cons_succ])
  refine doneT (by kernel_rfl) ?_ _
  have HBb := Lib.hid HT0.out.bl
  have c1 := hS3
  have zc := (cell_lt hS3).1
  clear HB2 hS2 zc2 hS3 hlo
  go_wp2_with fail
  go_loopw [37] (fun s wr => ∃ (k : Nat) (N : Option Addr) (cn : Nat), k ≤ n ∧ s = .int .i64 k ∧ Hid (TrG wa wr gx #[.slice L0 n cl0, .slice N k cn, .int .i64 n, .slice none 0 0] L0 n cl0 N k cn none 0 0 xss (natsF k) [])) (fun i _ => n - (intOf i).toNat)
  case atStart => exact ⟨0, none, 0, Nat.zero_le _, rfl, HT0⟩
  case round =>
    clear HT0 c1 zc
    obtain ⟨k, N, cn, hk, rfl, hT⟩ := hrel
    have hwz := hT.out.bl.size
    by_cases hkn : k < n
    · have k1 := hT.out.tb.cell 1
      simp at k1
      have kl := hT.out.tb.lt
      have hS1 := sl_one wr 3 (.int .i64 (k : Int)) rfl
      have HT1 := Lib.hid (hT.out.keep (below_new wr (.cells #[.int .i64 (k : Int)] 3)))
      have hz9 : wa.heap.size ≤ (wr.alloc (.cells #[.int .i64 (k : Int)] 3)).heap.size := by simp; omega
      go_wp2_with (first
        | (at_builtin
           refine wpList_append_sl _ rfl (.tmp 44) (.tmp 46) _ rfl wa.heap.size 3 i0 _ 8 Try.underlying25 hi0 hz0 hz1 hz2 rfl N k cn _ rfl HT1.out.no_ (some ⟨wr.heap.size, 0, none⟩) 1 1 _ rfl hS1 (by simp [Value.oneCell']) (by simp only [maxLen]; omega) (by omega) hz9 ?_
           intro N2 cn2 w6 hO2 hG2 hA2
           have HT6 := Lib.hid (HT1.out.growN hO2 hG2 hA2)
           have kf6 := HT6.out.tb.frozen 1
           have kc6 := HT6.out.tb.cell 1
           simp at kc6
           have kl6 := HT6.out.tb.lt
           have HT7 : Hid (TrG wa (w6.setCell ⟨gx, 1, none⟩ (.slice N2 (k + 1) cn2)) gx #[.slice L0 n cl0, .slice N2 (k + 1) cn2, .int .i64 n, .slice none 0 0] L0 n cl0 N2 (k + 1) cn2 none 0 0 xss (natsF (k + 1)) []) := by
             have := HT6.out.put 1 (.slice N2 (k + 1) cn2)
             rw [natsF_snoc]
             simpa [Hid] using this
           clear hO2 hG2 hA2))
      go_roundw
      case rel => exact ⟨k + 1, N2, cn2, by omega, by go_num, HT7⟩
      case measure => simp [intOf] <;> omega
    obtain rfl : k = n := by omega
    have hR0 : Hid (ofL vars (rs.drop 0) xss (natsF k) k [] = R) := by have := hR.out; unfold ofF at this; rw [hlx.out] at this; exact this
    have hN0 : Hid (∀ q ∈ natsF k, 0 ≤ q ∧ q < (k : Int)) := fun q hq => by
      unfold natsF at hq
      obtain ⟨i, hi, rfl⟩ := List.mem_map.1 hq
      have := List.mem_range.1 hi
      omega
    go_wp2_with fail
    go_loopw [53] (fun s wr => ∃ (j nk ck cn no co : Nat) (K N O : Option Addr) (known : List (List Int)) (nums : List Int) (nx : Int) (out : List R3), j ≤ m ∧ s = .int .i64 j ∧ nk ≤ k + j ∧ Hid (TrG wa wr gx #[.slice K nk ck, .slice N nk cn, .int .i64 nx, .slice O no co] K nk ck N nk cn O no co known nums out) ∧ Hid ((∀ x ∈ known, Lits vars x) ∧ (∀ q ∈ nums, 0 ≤ q ∧ q < nx) ∧ nx - out.length = k ∧ out.length ≤ 2000) ∧ Hid (ofL vars (rs.drop j) known nums nx out = R)) (fun i _ => m - (intOf i).toNat)
    case atStart => exact ⟨0, k, cl0, cn, 0, 0, L0, N, none, xss, natsF k, k, [], Nat.zero_le _, rfl, by omega, hT, ⟨HXL.out, hN0.out, by simp, by simp⟩, hR0⟩
    case round =>
      clear hR0 hN0 hT hR
      obtain ⟨j, nk, ck, cn', no, co, K, N', O, known, nums, nx, out, hj, rfl, hnk, hT, hI, hgo⟩ := hrel
      have hnol := hT.out.oo.len
      have hkl := hT.out.ko.p.len
      have hnl := hT.out.no_.len
      rw [List.length_map] at hnl
      by_cases hjm : j < m
      · obtain ⟨b, off, kd, X, nX, cX, xs, X2, n2, c2, i3, i4, i5, X6, n6, c6, i7, i8, hBe, hb, s0, s1, s2, s3, s4, s5, s6, s7, s8, hkd, hxs, hrk⟩ := (VA.out.keep hT.out.bl).round hjm
        subst hBe
        obtain ⟨hkk, hxl⟩ := HRSL.out (kd, xs) (List.mem_of_getElem? hrk.out)
        have y1 : (0 : Int) ≤ (j : Int) := by omega
        have y2 : (j : Int) < (m : Int) := by omega
        have zb := (cell_lt s0).1
        obtain ⟨ws, hws⟩ : ∃ ws : World, ws = wr.alloc (.cells #[.int .i64 kd, .slice X nX cX, .slice X2 n2 c2, .int .i64 i3, .int .i64 i4, .int .i64 i5, .slice X6 n6 c6, .int .i64 i7, .int .i64 i8] 102) := ⟨_, rfl⟩
        have hbs : Below wr.heap.size wr ws := by rw [hws]; exact below_new _ _
        have KS : Hid (Blk ws wr.heap.size 102 #[.int .i64 kd, .slice X nX cX, .slice X2 n2 c2, .int .i64 i3, .int .i64 i4, .int .i64 i5, .slice X6 n6 c6, .int .i64 i7, .int .i64 i8]) := by rw [hws]; exact Blk.new _ _ _
        have HTs := Lib.hid (hT.out.keep hbs)
        have HXs := Lib.hid (hxs.keep hbs)
        have k0 := HTs.out.tb.cell 0
        simp at k0
        obtain ⟨q, hq⟩ : ∃ q, Hid (known.any (fun z => z.isEmpty) = q) := ⟨_, rfl⟩
        have hgo2 : Hid (ofL vars ((kd, xs) :: rs.drop (j + 1)) known nums nx out = R) := by have := hgo.out; rw [drop_cons_of hrk.out] at this; exact this
        clear hgo hrk hxs hbs hT
        go_wp2_with fail
        rw [← hws]
        clear hws s0 s1 s2 s3 s4 s5 s6 s7 s8 zb
        refine (done_any gx K nk ck known ws k0 HTs.out.ko.p.grid q hq).mono ?_
        rintro e w5 ⟨rfl, hb5⟩
        have HT5 := Lib.hid (HTs.out.keep hb5)
        have HX5 := Lib.hid (HXs.out.keep hb5)
        have KS5 := Lib.hid (KS.out.keep hb5)
        have g0 := KS5.out.cell 0
        have g1 := KS5.out.cell 1
        simp at g0 g1
        have gl := KS5.out.lt
        clear hb5 HTs HXs KS k0
        cases q
        · have hany : ¬ known.any (fun z => z.isEmpty) = true := by rw [hq.out]; simp
          rcases hkk with hkd1 | hkd2
          · (try simp only at hkd1)
            subst hkd1
            obtain ⟨kn', nu', nx', ou', hst⟩ : ∃ a b c d, Hid (stpF vars known nums nx out xs = (a, b, c, d)) := ⟨_, _, _, _, rfl⟩
            have hgo3 : Hid ((if 2000 < ou'.length then none else ofL vars (rs.drop (j + 1)) kn' nu' nx' ou') = R) := by
              have := hgo2.out
              rw [ofL, if_neg hany, if_neg (by simp), hst.out] at this
              exact this
            have HOK := Lib.hid (stpF_ok v0 hI.out.1 hI.out.2.1 (by omega) hxl hst.out)
            have hnx : nx ≤ 1000000 := by have := hI.out; omega
            have hno : no ≤ 1000000 := by have := hI.out; omega
            clear hgo2
            go_wp2_with fail
            refine (step_any wa w5 gx K nk ck N' cn' O no co known nums nx out HT5.out X nX cX xs HX5.out vars v0 v9 hxl hI.out.1 hI.out.2.1 hnx (by omega) hno kn' nu' nx' ou' hst).mono ?_
            rintro e w6 ⟨rfl, K6, nk6, ck6, N6, cn6, O6, no6, co6, hT6⟩
            have HT6 := Lib.hid hT6
            have k3 := HT6.out.tb.cell 3
            simp at k3
            have kl := HT6.out.tb.lt
            have hol6 := HT6.out.oo.len
            have hkl6 := HT6.out.ko.p.len
            clear hT6 HT5 HX5 KS5 g0 g1 gl
            by_cases hm2 : 2000 < no6
            · have dm : decide ((2000 : Int) < (no6 : Int)) = true := by simp; omega
              obtain rfl : none = R := by have := hgo3.out; rw [if_pos (by omega)] at this; exact this
              have kr := Lib.hid (KRA.out.keep HT6.out.bl)
              obtain ⟨q0, q9⟩ := kr.out.put2 (.int .i64 2) (.int .i64 (-1))
              have Q0 := Lib.hid q0
              have Q9 := Lib.hid q9
              have t0 := kr.out.cell 0
              have t1 := kr.out.cell 1
              have tf0 := kr.out.frozen 0
              have tf1 := kr.out.frozen 1
              simp at t0 t1
              have l3 := kr.out.lt
              have BW := Lib.hid (below_next HBA.out HT6.out.bl)
              have BF := Lib.hid (below_put2 BW.out (g := w.heap.size + 1) (by omega) (.int .i64 2) (.int .i64 (-1)))
              clear q0 q9 hgo3
              go_wp2_with fail
              exact bodyPost_ret (v := .tuple #[.slice none 0 0, .agg #[.int .i64 2, .int .i64 (-1)]]) (by simp [results, Try.results40, go_sem, Q0.out, Q9.out, l3]) rfl ⟨rfl, BF.out⟩
            · have dm : decide ((2000 : Int) < (no6 : Int)) = false := by simp; omega
              have hgo4 : Hid (ofL vars (rs.drop (j + 1)) kn' nu' nx' ou' = R) := by have := hgo3.out; rw [if_neg (by omega)] at this; exact this
              clear hgo3
              go_wp2_with fail
              go_roundw
              case rel => exact ⟨j + 1, nk6, ck6, cn6, no6, co6, K6, N6, O6, kn', nu', nx', ou', by omega, by go_num, by have := HOK.out.2.2.2; omega, HT6, ⟨HOK.out.1, HOK.out.2.1, by have := HOK.out.2.2.1; have := hI.out; omega, by omega⟩, hgo4⟩
              case measure => simp [intOf] <;> omega
          · (try simp only at hkd2)
            subst hkd2
            have hgo3 : Hid (ofL vars (rs.drop (j + 1)) known nums nx out = R) := by
              have := hgo2.out
              rw [ofL, if_neg hany, if_pos (by simp)] at this
              exact this
            clear hgo2
            go_wp2_with fail
            go_roundw
            case rel => exact ⟨j + 1, nk, ck, cn', no, co, K, N', O, known, nums, nx, out, by omega, by go_num, by omega, HT5, hI, hgo3⟩
            case measure => simp [intOf] <;> omega
        · obtain rfl : some out = R := by have := hgo2.out; rw [ofL_done hq.out] at this; exact this
          clear hgo2
          have kr := KRA.out.keep HT5.out.bl
          have e0 := kr.cell 0
          have e1 := kr.cell 1
          have f0 := kr.frozen 0
          have f1 := kr.frozen 1
          simp at e0 e1
          have lr := kr.lt
          have kx3 := HT5.out.tb.cell 3
          simp at kx3
          have kxl := HT5.out.tb.lt
          have BW := Lib.hid (below_next HBA.out HT5.out.bl)
          have OT := Lib.hid HT5.out.oo.trips
          have SI : Hid ((w5.setCell ⟨w.heap.size + 1, 0, none⟩ (.int .i64 0)).setCell ⟨w.heap.size + 1, 1, none⟩ (.int .i64 0) = w5) := by rw [setCell_id kr rfl, setCell_id kr rfl]; rfl
          clear kr
          go_wp2_with fail
          exact bodyPost_ret (v := .tuple #[.slice O no co, .agg #[.int .i64 0, .int .i64 0]]) (by rw [SI.out]; simp [results, Try.results40, go_sem, e0, e1]) rfl (by rw [SI.out]; exact ⟨O, no, co, rfl, OT.out, BW.out⟩)
      · obtain rfl : some out = R := by have := hgo.out; rw [List.drop_of_length_le (by rw [hlen.out]; omega), ofL] at this; exact this
        clear hgo
        have kr := KRA.out.keep hT.out.bl
        have e0 := kr.cell 0
        have e1 := kr.cell 1
        have f0 := kr.frozen 0
        have f1 := kr.frozen 1
        simp at e0 e1
        have lr := kr.lt
        have kx3 := hT.out.tb.cell 3
        simp at kx3
        have kxl := hT.out.tb.lt
        have BW := Lib.hid (below_next HBA.out hT.out.bl)
        have OT := Lib.hid hT.out.oo.trips
        have SI : Hid ((wr.setCell ⟨w.heap.size + 1, 0, none⟩ (.int .i64 0)).setCell ⟨w.heap.size + 1, 1, none⟩ (.int .i64 0) = wr) := by rw [setCell_id kr rfl, setCell_id kr rfl]; rfl
        clear kr
        go_wp2_with fail
        exact bodyPost_ret (v := .tuple #[.slice O no co, .agg #[.int .i64 0, .int .i64 0]]) (by rw [SI.out]; simp [results, Try.results40, go_sem, e0, e1]) rfl (by rw [SI.out]; exact ⟨O, no, co, rfl, OT.out, BW.out⟩)
end Go.Proofs.Ytabjbpkojbdgaaa

/- Contract of res.Check. (Printed by wip/tools/rescheck.py.) -/
namespace Go.Proofs.Ytabjbpkojbdgaaa
open Go.RowKit
set_option linter.unusedSimpArgs false

/-- The clause of each resolution, or what is wrong (a code, a place). -/
def resC (vars : Int) (xss : List (List Int)) (rs : List R3) : List (List Int) × Int × Int :=
  if 2000 < rs.length then ([], 2, -1) else ((ressF vars rs xss 0).1.drop xss.length, (ressF vars rs xss 0).2)
/-- Clauses, and a fault. -/
def RetRowsF (l : List (List Int)) (r1 r2 : Int) (w : World) (e : Ending) (w' : World) : Prop :=
  ∃ A n c, e = .returned (.tuple #[.slice A n c, .agg #[.int .i64 r1, .int .i64 r2]]) ∧ Grid w' A n c l ∧ Below w.heap.size w w'
theorem grid_nil (w : World) : Grid w none 0 0 [] := ⟨[], ⟨rfl, Nat.le_refl _, Nat.zero_le _, fun h => by omega⟩, rfl, by simp⟩

set_option maxHeartbeats 1000000 in
theorem res_check_wrong (A B : Option Addr) (n c m d : Nat) (xss : List (List Int)) (vars : Int) (w : World) (h : Grid w A n c xss) (hv : I64 vars) (r1 r2 : Int) (hr : Hid (checkC vars xss = (r1, r2))) (h0 : r1 ≠ 0) :
    Calls Try.prog 42 #[.agg #[.int .i64 vars, .slice A n c], .slice B m d] w (RetRowsF [] r1 r2 w) := by
  have d1 : (r1 != 0) = true := by simpa using h0
  have hbW := below_alloc (below_new w (.cells #[.int .i64 vars, .slice A n c] 24)) (.cells #[.int .i64 0, .int .i64 0] 28)
  have g := h.keep hbW
  have HBW := Lib.hid hbW
  clear hbW
  go_enter Try.func42, Try.ntmps42
  go_wp2_with fail
  refine (check_own _ _ _ _ _ _ g hv _ _ hr).mono ?_
  rintro e w1 ⟨rfl, hb1⟩
  obtain ⟨k2, k4, _, l1⟩ := two_blks hb1
  have t0 := k4.cell 0
  have t1 := k4.cell 1
  have tf0 := k4.frozen 0
  have tf1 := k4.frozen 1
  simp at t0 t1
  have HB := Lib.hid (below_next HBW.out hb1)
  have l3 : w.heap.size + 1 < w1.heap.size := by omega
  clear hb1 k2 k4 g
  go_wp2_with fail
  go_region
  go_wp2_with fail
  refine bodyPost_ret (v := .tuple #[.slice none 0 0, .agg #[.int .i64 r1, .int .i64 r2]]) (by simp [results, Try.results42, go_sem, t0, t1, l3]) rfl ⟨none, 0, 0, rfl, grid_nil _, ?_⟩
  exact ((below_put2 HB.out (g := w.heap.size + 1) (by omega) _ _).alloc (by simp; omega) _).drew

set_option maxHeartbeats 4000000 in
set_option maxRecDepth 100000 in
theorem res_check (A B : Option Addr) (n c m d : Nat) (xss : List (List Int)) (rs : List R3) (vars : Int) (w : World) (h : Grid w A n c xss) (hv : I64 vars) (ht : Trips w B m d rs) (hr : Hid (checkC vars xss = (0, 0))) (l : List (List Int)) (r1 r2 : Int) (hR : Hid (resC vars xss rs = (l, r1, r2))) :
    Calls Try.prog 42 #[.agg #[.int .i64 vars, .slice A n c], .slice B m d] w (RetRowsF l r1 r2 w) := by
  have hbd := h.bd
  have hlen := Lib.hid h.len
  have hbdt := ht.bd
  have hlt := Lib.hid ht.len
  obtain ⟨_, v0, v1, hn400, hrows⟩ := checkC_ok (vars := vars) (xss := xss) (by rw [hr.out])
  have HLL : Hid (∀ x ∈ xss, Lits vars x) := fun x hx => (hrows x hx).2
  have hn4 : n ≤ 400 := by have := hlen.out; omega
  obtain ⟨i0, hi0, hz0, hz1, hz2⟩ := info_parts row_info
  have G := Lib.hid h
  have TT := Lib.hid ht
  clear h ht hrows hn400
  go_enter Try.func42, Try.ntmps42
  go_wp2_with fail
  refine (check_own _ _ _ _ _ _ (G.out.keep (below_alloc (below_new _ _) _)) hv _ _ hr).mono ?_
  rintro e w1 ⟨rfl, hb1⟩
  obtain ⟨K_c0, K_r0, B_w1, l_w1⟩ := two_blks hb1
  replace G := Lib.hid (G.out.keep B_w1)
  replace TT := Lib.hid (TT.out.keep B_w1)
  have HB := Lib.hid B_w1
  have K_c := Lib.hid K_c0
  have K_r := Lib.hid K_r0
  clear hb1 B_w1 K_c0 K_r0
  have cK_c_0 := K_c.out.cell 0
  have cK_c_1 := K_c.out.cell 1
  simp at cK_c_0 cK_c_1
  have zK_c := K_c.out.lt
  have cK_r_0 := K_r.out.cell 0
  have cK_r_1 := K_r.out.cell 1
  simp at cK_r_0 cK_r_1
  have zK_r := K_r.out.lt
  have fK_r_0 := K_r.out.frozen 0
  have fK_r_1 := K_r.out.frozen 1
  by_cases hbig : 2000 < m
  · have hb2 : ([], (2 : Int), (-1 : Int)) = (l, r1, r2) := by rw [← hR.out, resC, if_pos (by rw [hlt.out]; exact hbig)]
    obtain ⟨rfl, rfl, rfl⟩ : [] = l ∧ 2 = r1 ∧ -1 = r2 := by simpa using hb2
    have l3 : w.heap.size + 1 < w1.heap.size := by omega
    have BF := Lib.hid ((below_put2 HB.out (g := w.heap.size + 1) (by omega) (.int .i64 2) (.int .i64 (-1))).alloc (by simp; omega) (.cells #[.int .i64 0, .int .i64 0] 28))
    go_wp2_with fail
    exact bodyPost_ret (v := .tuple #[.slice none 0 0, .agg #[.int .i64 2, .int .i64 (-1)]]) (by simp [results, Try.results42, go_sem, cK_r_0, cK_r_1, l3]) rfl ⟨none, 0, 0, rfl, grid_nil _, BF.out⟩
  · have hR2 : Hid (((ressF vars rs xss 0).1.drop xss.length, (ressF vars rs xss 0).2) = (l, r1, r2)) := by have := hR.out; rw [resC, if_neg (by rw [hlt.out]; exact hbig)] at this; exact this
    obtain ⟨P, hP⟩ : ∃ P, Hid (ressF vars rs xss 0 = P) := ⟨_, rfl⟩
    rw [hP.out, hlen.out] at hR2
    have hm2 : m ≤ 2000 := by omega
    have dbig : decide (2000 < m) = false := decide_eq_false hbig
    clear hR
    obtain ⟨w0, hw0⟩ : ∃ w0 : World, w0 = w1.alloc (.cells #[.int .i64 0, .int .i64 0] 28) := ⟨_, rfl⟩
    have hb0 : Below w1.heap.size w1 w0 := by rw [hw0]; exact below_new _ _
    obtain ⟨vs0, hsl0, hrw0⟩ := (G.out.keep hb0).rowsP 3 (Nat.le_refl _)
    have HSL := Lib.hid hsl0
    have HRW := Lib.hid hrw0
    have B0 := Lib.hid hb0
    clear hsl0 hrw0 hb0 hbig
    go_wp2_with fail
    rw [← hw0]
    clear hw0
    refine (clone_rows _ _ _ w0.heap.size xss w0 vs0 HSL.out HRW.out (by omega) (Nat.le_refl _)).mono ?_
    rintro e w2 ⟨A2, n2, c2, rfl, hown2, hb2⟩
    obtain rfl : n2 = n := by have h1 := hown2.len; have h2 := hlen.out; omega
    have HO2 := Lib.hid hown2
    have HB2 := Lib.hid hb2
    have gC := keepBox B0.out cK_c_0
    have gC1 := keepBox B0.out cK_c_1
    replace TT := Lib.hid (TT.out.keep B0.out)
    replace K_r := Lib.hid (K_r.out.keep B0.out)
    replace HB := Lib.hid (below_next HB.out B0.out)
    have e2C := keepBox HB2.out gC
    have e2C1 := keepBox HB2.out gC1
    have zK2 := K_r.out.lt
    clear hown2 hb2 HSL HRW cK_c_0 cK_c_1 cK_r_0 cK_r_1 zK_c zK_r fK_r_0 fK_r_1 K_c G B0 l_w1
    go_wp2_with fail
    go_loopw [7, 27] (fun o i wr => ∃ (k na ca : Nat) (Aa : Option Addr) (all : List (List Int)), k ≤ m ∧ n2 ≤ na ∧ na ≤ 400 + k ∧ o = .slice Aa na ca ∧ i = .int .i64 k ∧ Hid (OwnP 25 3 wr w0.heap.size w0.heap.size Aa na ca all) ∧ Hid (∀ x ∈ all, Lits vars x) ∧ Hid (Below w0.heap.size w0 wr) ∧ Hid (ressF vars (rs.drop k) all k = P)) (fun _ i _ => m - (intOf i).toNat)
    case atStart => exact ⟨0, n2, c2, A2, xss, Nat.zero_le _, Nat.le_refl _, by omega, rfl, rfl, HO2, HLL, HB2, hP⟩
    case round =>
      obtain ⟨k, na, ca, Aa, all, hk, hna, hnk, rfl, rfl, hown, hall, hbl, hgo⟩ := hrel
      have e0 := keepBox hbl.out gC
      have e1 := keepBox hbl.out gC1
      have z0 : w.heap.size < wr.heap.size := (cell_lt e0).1
      have hwz := hbl.out.size
      by_cases hkm : k < m
      · obtain ⟨b, off, x, y, z, hBe, hb, t1, t2, t3, hx64, hy64, hz64, hrk⟩ := (TT.out.keep hbl.out).round hkm
        subst hBe
        obtain ⟨nl, code, hone⟩ : ∃ a b, Hid (oneF vars all (x, y, z) = (a, b)) := ⟨_, _, rfl⟩
        have hgo2 : Hid ((if code ≠ 0 then ([], code, (k : Int)) else ressF vars (rs.drop (k + 1)) (all ++ [nl]) (k + 1)) = P) := by have := hgo.out; rw [drop_cons_of hrk.out, ressF, hone.out] at this; exact this
        have hbx := below_new wr (.cells #[.int .i64 x, .int .i64 y, .int .i64 z] 75)
        have HGa := Lib.hid (hown.out.grid.keep hbx)
        have y1 : (0 : Int) ≤ (k : Int) := by omega
        have y2 : (k : Int) < (m : Int) := by omega
        clear hgo hbx
        go_wp2_with fail
        refine (one_any _ _ _ all x y z vars _ HGa.out hx64 hy64 hz64 hall.out v0 (by omega) nl code hone).mono ?_
        rintro e w3 ⟨L3, n3, c3, rfl, hown3, hb3⟩
        obtain ⟨_, B3, l3⟩ := blk1 hb3
        have OW3 := Lib.hid (hown.out.keep B3)
        have BL3 := Lib.hid (below_next hbl.out B3)
        have KR3 := Lib.hid (K_r.out.keep BL3.out)
        have O3 := Lib.hid hown3
        clear hown3 hb3 B3
        by_cases hcode : code = 0
        · subst hcode
          have hnl : Hid (Lits vars nl) := by have := oneF_lits (r := (x, y, z)) hall.out (by rw [hone.out]); rw [hone.out] at this; exact this
          have I3 := Lib.hid (O3.out.ints (fun q hq => (by have := hnl.out.1 q hq; unfold I64; omega)))
          obtain ⟨vs, hv1, hv2⟩ := OW3.out
          have HV1 := Lib.hid (hv1.keep (below_new w3 (.cells #[.slice L3 n3 c3] 25)))
          have HV2 := Lib.hid (hv2.keep (below_new w3 (.cells #[.slice L3 n3 c3] 25)))
          have hS := sl_one w3 25 (.slice L3 n3 c3) rfl
          have hw3 := BL3.out.size
          clear hv1 hv2
          go_wp2_with (first
            | (at_builtin
               refine wpList_append_sl _ rfl (.tmp 45) (.tmp 47) _ rfl w0.heap.size 25 i0 _ 24 Try.underlying22 hi0 hz0 hz1 hz2 rfl Aa na ca _ rfl HV1.out (some ⟨w3.heap.size, 0, none⟩) 1 1 _ rfl hS (by simp [Value.oneCell']) (by simp only [maxLen]; omega) (by omega) (by simp; omega) ?_
               intro L1 cL1 w6 hL1 hg1 hat1
               have HP6 := Lib.hid (OwnP.push HV1.out HV2.out (Nat.le_refl _) row_ne (I3.out.keep (below_new _ _)) (Away.own (O3.out.keep (below_new _ _))) hL1 hg1)
               have HB6 := Lib.hid (below_grown (below_alloc BL3.out (.cells #[.slice L3 n3 c3] 25)) HV1.out (Nat.le_refl _) hg1)
               clear hL1 hg1 hat1))
          go_roundw
          case rel =>
            refine ⟨k + 1, na + 1, cL1, L1, all ++ [nl], by omega, by omega, by omega, rfl, by go_num, HP6, ?_, HB6, by have := hgo2.out; simpa [Hid] using this⟩
            intro q hq
            rcases List.mem_append.1 hq with hq | hq
            · exact hall.out q hq
            · simp at hq; subst hq; exact hnl.out
          case measure => simp [intOf]; omega
        · have dc : (code != 0) = true := by simpa using hcode
          have hPe : ([], code, (k : Int)) = P := by have := hgo2.out; rw [if_pos hcode] at this; exact this
          subst hPe
          obtain ⟨rfl, rfl, rfl⟩ : [] = l ∧ code = r1 ∧ (k : Int) = r2 := by have := hR2.out; simpa using this
          have t0 := KR3.out.cell 0
          have t1' := KR3.out.cell 1
          have tf0 := KR3.out.frozen 0
          have tf1 := KR3.out.frozen 1
          simp at t0 t1'
          have ltr := KR3.out.lt
          obtain ⟨u0, u1⟩ := KR3.out.put2 (.int .i64 code) (.int .i64 k)
          have U0 := Lib.hid u0
          have U1 := Lib.hid u1
          have HB9 := Lib.hid (below_put2 (below_next HB.out BL3.out) (g := w.heap.size + 1) (by omega) (.int .i64 code) (.int .i64 k))
          clear u0 u1
          go_wp2_with fail
          exact bodyPost_ret (v := .tuple #[.slice none 0 0, .agg #[.int .i64 code, .int .i64 k]]) (by simp [results, Try.results42, go_sem, U0.out, U1.out]) rfl ⟨none, 0, 0, rfl, grid_nil _, HB9.out⟩
      · obtain rfl : k = m := by omega
        have hPe : (all, (0 : Int), (0 : Int)) = P := by have := hgo.out; rw [List.drop_of_length_le (by rw [hlt.out]; omega), ressF] at this; exact this
        subst hPe
        obtain ⟨rfl, rfl, rfl⟩ : all.drop n2 = l ∧ 0 = r1 ∧ 0 = r2 := by have := hR2.out; simpa using this
        obtain ⟨vs, hv1, hv2⟩ := hown.out
        have KR3 := Lib.hid (K_r.out.keep hbl.out)
        have DR := Lib.hid (hv2.drop n2)
        have hform := hv1.form
        have hsl := hv1.sl
        have y1 : (0 : Int) ≤ (n2 : Int) := by omega
        have y2 : (n2 : Int) ≤ (na : Int) := by omega
        rcases hform with ⟨rfl, hn0, hc0, _⟩ | ⟨g, cur, rfl, hg, hh, hle, hcm, _⟩
        · obtain rfl : n2 = 0 := by omega
          subst hn0 hc0
          have HSL : Hid (Sl wr none 0 0 (vs.drop 0)) := by simpa [Hid] using hsl
          clear hv1 hv2 hsl
          go_wp2_with fail
          refine (clone_rows none 0 0 w0.heap.size _ wr _ HSL.out DR.out (by omega) hwz).mono ?_
          rintro e w5 ⟨A5, n5, c5, rfl, hown5, hb5⟩
          have G5 := Lib.hid hown5.grid
          have B5 := Lib.hid hb5
          have KR5 := Lib.hid (KR3.out.keep B5.out)
          have t0 := KR5.out.cell 0
          have t1' := KR5.out.cell 1
          have tf0 := KR5.out.frozen 0
          have tf1 := KR5.out.frozen 1
          simp at t0 t1'
          have ltr := KR5.out.lt
          obtain ⟨u0, u1⟩ := KR5.out.put2 (.int .i64 0) (.int .i64 0)
          have U0 := Lib.hid u0
          have U1 := Lib.hid u1
          have HB9 := Lib.hid (below_put2 (below_next HB.out (below_next hbl.out B5.out)) (g := w.heap.size + 1) (by omega) (.int .i64 0) (.int .i64 0))
          have HS2 : Hid (((w5.setCell ⟨w.heap.size + 1, 0, none⟩ (.int .i64 0)).setCell ⟨w.heap.size + 1, 1, none⟩ (.int .i64 0)) = w5) := by
            show _ = _
            rw [setCell_id KR5.out rfl, setCell_id KR5.out rfl]
          clear u0 u1 hown5 hb5
          go_wp2_with fail
          exact bodyPost_ret (v := .tuple #[.slice A5 n5 c5, .agg #[.int .i64 0, .int .i64 0]]) (by simp [results, Try.results42, go_sem, U0.out, U1.out]) rfl ⟨A5, n5, c5, rfl, by rw [HS2.out]; exact G5.out, HB9.out⟩
        · by_cases hcn : ca = n2
          · subst hcn
            obtain rfl : na = ca := by omega
            have HSL : Hid (Sl wr (some ⟨g, 0, none⟩) 0 0 (vs.drop na)) := by rw [List.drop_of_length_le (by rw [hsl.len]; omega)]; exact Sl.nilAny (Nat.zero_le _)
            clear hv1 hv2 hsl
            go_wp2_with fail
            refine (clone_rows (some ⟨g, 0, none⟩) 0 0 w0.heap.size _ wr _ HSL.out DR.out (by omega) hwz).mono ?_
            rintro e w5 ⟨A5, n5, c5, rfl, hown5, hb5⟩
            have G5 := Lib.hid hown5.grid
            have B5 := Lib.hid hb5
            have KR5 := Lib.hid (KR3.out.keep B5.out)
            have t0 := KR5.out.cell 0
            have t1' := KR5.out.cell 1
            have tf0 := KR5.out.frozen 0
            have tf1 := KR5.out.frozen 1
            simp at t0 t1'
            have ltr := KR5.out.lt
            obtain ⟨u0, u1⟩ := KR5.out.put2 (.int .i64 0) (.int .i64 0)
            have U0 := Lib.hid u0
            have U1 := Lib.hid u1
            have HB9 := Lib.hid (below_put2 (below_next HB.out (below_next hbl.out B5.out)) (g := w.heap.size + 1) (by omega) (.int .i64 0) (.int .i64 0))
            have HS2 : Hid (((w5.setCell ⟨w.heap.size + 1, 0, none⟩ (.int .i64 0)).setCell ⟨w.heap.size + 1, 1, none⟩ (.int .i64 0)) = w5) := by
              show _ = _
              rw [setCell_id KR5.out rfl, setCell_id KR5.out rfl]
            clear u0 u1 hown5 hb5
            go_wp2_with fail
            exact bodyPost_ret (v := .tuple #[.slice A5 n5 c5, .agg #[.int .i64 0, .int .i64 0]]) (by simp [results, Try.results42, go_sem, U0.out, U1.out]) rfl ⟨A5, n5, c5, rfl, by rw [HS2.out]; exact G5.out, HB9.out⟩
          · have hcp2 : ((ca : Int) = (n2 : Int)) = False := by simp; omega
            have hcp3 : ¬ ca = n2 := hcn
            have hcp4 : (ca : Int) ≠ (n2 : Int) := by omega
            have y3 : (na : Int) ≤ (ca : Int) := by omega
            have HSL : Hid (Sl wr (some ⟨g, n2, none⟩) (na - n2) (ca - n2) (vs.drop n2)) := by have := hsl.drop (p := n2) (by omega); simpa [Hid] using this
            have hca : ca ≤ 9223372036854775807 := by have := hcm; unfold maxLen at this; omega
            clear hv1 hv2 hsl
            go_wp2_with fail
            refine (clone_rows (some ⟨g, n2, none⟩) (na - n2) (ca - n2) w0.heap.size _ wr _ HSL.out DR.out (by omega) hwz).mono ?_
            rintro e w5 ⟨A5, n5, c5, rfl, hown5, hb5⟩
            have G5 := Lib.hid hown5.grid
            have B5 := Lib.hid hb5
            have KR5 := Lib.hid (KR3.out.keep B5.out)
            have t0 := KR5.out.cell 0
            have t1' := KR5.out.cell 1
            have tf0 := KR5.out.frozen 0
            have tf1 := KR5.out.frozen 1
            simp at t0 t1'
            have ltr := KR5.out.lt
            obtain ⟨u0, u1⟩ := KR5.out.put2 (.int .i64 0) (.int .i64 0)
            have U0 := Lib.hid u0
            have U1 := Lib.hid u1
            have HB9 := Lib.hid (below_put2 (below_next HB.out (below_next hbl.out B5.out)) (g := w.heap.size + 1) (by omega) (.int .i64 0) (.int .i64 0))
            have HS2 : Hid (((w5.setCell ⟨w.heap.size + 1, 0, none⟩ (.int .i64 0)).setCell ⟨w.heap.size + 1, 1, none⟩ (.int .i64 0)) = w5) := by
              show _ = _
              rw [setCell_id KR5.out rfl, setCell_id KR5.out rfl]
            clear u0 u1 hown5 hb5
            go_wp2_with fail
            exact bodyPost_ret (v := .tuple #[.slice A5 n5 c5, .agg #[.int .i64 0, .int .i64 0]]) (by simp [results, Try.results42, go_sem, U0.out, U1.out]) rfl ⟨A5, n5, c5, rfl, by rw [HS2.out]; exact G5.out, HB9.out⟩
end Go.Proofs.Ytabjbpkojbdgaaa

/- Contracts of the law's hasNone, and of the reference's Some without variables and without clauses. -/
namespace Go.Proofs.Ytabjbpkojbdgaaa
open Go.RowKit
set_option linter.unusedSimpArgs false

set_option maxHeartbeats 2000000 in
theorem hasNone_any (A : Option Addr) (n c : Nat) (xss : List (List Int)) (vars : Int) (w : World) (h : Grid w A n c xss) (q : Bool) (hq : Hid (xss.any (fun z => z.isEmpty) = q)) :
    Calls Try.prog 44 #[.agg #[.int .i64 vars, .slice A n c]] w (RetV (.bool q) w) := by
  have hbd := h.bd
  have hlen := Lib.hid h.len
  obtain ⟨w1, hw1⟩ : ∃ w1 : World, w1 = w.alloc (.cells #[.int .i64 vars, .slice A n c] 24) := ⟨_, rfl⟩
  have HB1 : Hid (Below w.heap.size w w1) := by rw [hw1]; exact below_new _ _
  have KC : Hid (Blk w1 w.heap.size 24 #[.int .i64 vars, .slice A n c]) := by rw [hw1]; exact Blk.new _ _ _
  have G := Lib.hid (h.keep HB1.out)
  have hq0 : Hid ((xss.drop 0).any (fun z => z.isEmpty) = q) := hq
  clear h hq
  go_enter Try.func44, Try.ntmps44
  go_wp2_with fail
  rw [← hw1]
  clear hw1
  go_loopw [3] (fun s wr => ∃ (k : Nat), k ≤ n ∧ s = .int .i64 k ∧ Hid ((xss.drop k).any (fun z => z.isEmpty) = q) ∧ Hid (Below w1.heap.size w1 wr)) (fun i _ => n - (intOf i).toNat)
  case atStart => exact ⟨0, Nat.zero_le _, rfl, hq0, Below.refl _ _⟩
  case round =>
    clear hq0
    obtain ⟨k, hk, rfl, hgo, hB⟩ := hrel
    have c1 := (KC.out.keep hB.out).cell 1
    simp at c1
    have zc := (cell_lt c1).1
    have BW := Lib.hid (below_next HB1.out hB.out)
    by_cases hkn : k < n
    · obtain ⟨b, off, A', n', c', xs, hAe, hb, hcell, hI, hxk⟩ := (G.out.keep hB.out).round hkn
      have hxl := hI.len
      have y1 : (0 : Int) ≤ (k : Int) := by omega
      have y2 : (k : Int) < (n : Int) := by omega
      have hst : Hid ((xs.isEmpty || (xss.drop (k + 1)).any (fun z => z.isEmpty)) = q) := by have := hgo.out; rw [drop_cons_of hxk.out] at this; exact this
      have zb := (cell_lt hcell).1
      subst hAe
      clear hgo hxk hI hb
      by_cases h0 : n' = 0
      · subst h0
        obtain rfl : true = q := by have := hst.out; rw [List.isEmpty_iff_length_eq_zero.2 hxl] at this; simpa using this
        go_wp2_with fail
        go_ret
        exact ⟨rfl, BW.out⟩
      · have d0 : ((n' : Int) == 0) = false := by rw [beq_eq_false_iff_ne]; omega
        have hst2 : Hid ((xss.drop (k + 1)).any (fun z => z.isEmpty) = q) := by
          have := hst.out
          rw [show xs.isEmpty = false by rw [Bool.eq_false_iff]; intro e; rw [List.isEmpty_iff_length_eq_zero] at e; omega] at this
          exact this
        clear hst
        go_wp2_with fail
        go_roundw
        case rel => exact ⟨k + 1, by omega, by go_num, hst2, hB⟩
        case measure => simp [intOf] <;> omega
    · obtain rfl : false = q := by have := hgo.out; rw [List.drop_of_length_le (by rw [hlen.out]; omega)] at this; exact this
      clear hgo
      go_wp2_with fail
      go_ret
      exact ⟨rfl, BW.out⟩

theorem bits_none (w : World) : Calls Try.prog 71 #[.int .i64 0, .int .i64 0] w (RetQ (.slice none 0 0) w) := by
  go_enter Try.func71, Try.ntmps71
  go_wp2_with fail
  go_loopw [5, 6] (fun s5 s wr => s5 = .slice none 0 0 ∧ s = .int .i64 0 ∧ wr = w) (fun _ _ _ => 0)
  case atStart => exact ⟨rfl, rfl, rfl⟩
  case round =>
    obtain ⟨rfl, rfl, rfl⟩ := hrel
    go_wp2_with fail
    go_ret
    exact RetQ.same _ _
theorem all_none (w : World) : Calls Try.prog 23 #[.slice none 0 0, .slice none 0 0] w (RetQ (.bool true) w) := by
  go_enter Try.func23, Try.ntmps23
  go_wp2_with fail
  go_loopw [5] (fun s wr => s = .int .i64 0 ∧ wr = w) (fun _ _ => 0)
  case atStart => exact ⟨rfl, rfl⟩
  case round =>
    obtain ⟨rfl, rfl⟩ := hrel
    go_wp2_with fail
    go_ret
    exact RetQ.same _ _
theorem some_none (w : World) : Calls Try.prog 43 #[.int .i64 0, .slice none 0 0] w (RetV (.int .i64 0) w) := by
  go_enter Try.func43, Try.ntmps43
  go_wp2_with fail
  go_loopw [5] (fun s wr => s = .int .i64 0 ∧ wr = w) (fun _ _ => 0)
  case atStart => exact ⟨rfl, rfl⟩
  case round =>
    obtain ⟨rfl, rfl⟩ := hrel
    go_wp2_with fail
    refine (bits_none _).mono ?_
    rintro e w1 hq1
    obtain ⟨rfl, hb1⟩ := hq1.v
    clear hq1
    go_wp2_with fail
    refine (all_none _).mono ?_
    rintro e w2 hq2
    obtain ⟨rfl, hb2⟩ := hq2.v
    clear hq2
    go_wp2_with fail
    go_ret
    exact ⟨rfl, below_next hb1 hb2⟩
end Go.Proofs.Ytabjbpkojbdgaaa

/- Contracts of the law's against, end. -/
namespace Go.Proofs.Ytabjbpkojbdgaaa
open Go.RowKit
set_option linter.unusedSimpArgs false

theorem grid3 {w : World} {A A' A'' : Option Addr} {n c n' c' n'' c'' : Nat} {xs ys zs : List Int} (t : TypeId) {b : Nat} (hb : b = w.heap.size) (h : Ints w A n c xs) (h' : Ints w A' n' c' ys) (h'' : Ints w A'' n'' c'' zs) : Grid (w.alloc (.cells #[.slice A n c, .slice A' n' c', .slice A'' n'' c''] t)) (some ⟨b, 0, none⟩) 3 3 [xs, ys, zs] :=
  grid_made w t [.slice A n c, .slice A' n' c', .slice A'' n'' c''] [xs, ys, zs] hb (by simp [maxLen]) rfl fun k v hv => by
    match k with
    | 0 => simp at hv; subst hv; exact ⟨_, _, _, _, rfl, rfl, h⟩
    | 1 => simp at hv; subst hv; exact ⟨_, _, _, _, rfl, rfl, h'⟩
    | 2 => simp at hv; subst hv; exact ⟨_, _, _, _, rfl, rfl, h''⟩
    | k + 3 => simp at hv
set_option maxHeartbeats 400000 in
theorem against_any (w : World) : Calls Try.prog 31 #[] w (RetCnf 2 [[1, 2], [-1], [-2]] w) := by
  go_enter Try.func31, Try.ntmps31
  go_wp2_with fail
  have h1 := ints_made (w.alloc (.cells #[.int .i64 2, .slice (some ⟨w.heap.size + 1 + 1 + 1 + 1, 0, none⟩) 3 3] 24)) 3 [1, 2] (b := w.heap.size + 1) (by simp) (by simp [I64]) (by decide)
  have h2 := ints_made ((w.alloc (.cells #[.int .i64 2, .slice (some ⟨w.heap.size + 1 + 1 + 1 + 1, 0, none⟩) 3 3] 24)).alloc (.cells #[.int .i64 1, .int .i64 2] 3)) 3 [-1] (b := w.heap.size + 1 + 1) (by simp) (by simp [I64]) (by decide)
  have h3 := ints_made (((w.alloc (.cells #[.int .i64 2, .slice (some ⟨w.heap.size + 1 + 1 + 1 + 1, 0, none⟩) 3 3] 24)).alloc (.cells #[.int .i64 1, .int .i64 2] 3)).alloc (.cells #[.int .i64 (-1)] 3)) 3 [-2] (b := w.heap.size + 1 + 1 + 1) (by simp) (by simp [I64]) (by decide)
  exact bodyPost_ret (v := .agg #[.int .i64 2, .slice (some ⟨w.heap.size + 1 + 1 + 1 + 1, 0, none⟩) 3 3]) (by simp [results, Try.results31, go_sem]) rfl
    ⟨_, _, _, rfl, grid3 25 (by simp) ((h1.keep (below_new _ _)).keep (below_new _ _)) (h2.keep (below_new _ _)) h3, below_alloc (below_alloc (below_alloc (below_alloc (below_new _ _) _) _) _) _⟩
/-- One step that learns the clause without literals. -/
theorem end_any (w : World) : Calls Try.prog 32 #[] w fun e w' => ∃ A n c, e = .returned (.slice A n c) ∧ Steps w' A n c [(1, [])] ∧ Below w.heap.size w w' := by
  go_enter Try.func32, Try.ntmps32
  go_wp2_with fail
  go_ret
  refine ⟨some ⟨w.heap.size, 0, none⟩, 1, 1, rfl, ⟨rfl, Nat.le_refl _, by simp [maxLen], fun _ => ⟨w.heap.size, 0, rfl, by simp, fun k r hk => ?_⟩, by simp [I64]⟩, below_new _ _⟩
  match k, hk with
  | 0, hk =>
    simp at hk
    subst hk
    exact ⟨none, 0, 0, none, 0, 0, 0, 0, 0, none, 0, 0, 0, 0, by simp [go_sem], by simp [go_sem], by simp [go_sem], by simp [go_sem], by simp [go_sem], by simp [go_sem], by simp [go_sem], by simp [go_sem], by simp [go_sem], ints_nil _⟩
  | k + 1, hk => simp at hk
theorem why_end : whyS 2 [[1, 2], [-1], [-2]] [(1, [])] = (-1, 0, 0) := by decide
end Go.Proofs.Ytabjbpkojbdgaaa

/- Contract of the law's heavy. -/
namespace Go.Proofs.Ytabjbpkojbdgaaa
open Go.RowKit

theorem heavy_any (A : Option Addr) (n c : Nat) (vars : Int) (w : World) (hn : n ≤ 9223372036854775807) (r : Bool) (hr : Hid ((decide (40 < vars) || decide (60 < (n : Int))) = r)) :
    Calls Try.prog 12 #[.agg #[.int .i64 vars, .slice A n c]] w (RetV (.bool r) w) := by
  by_cases h1 : 40 < vars
  · have d1 : decide (40 < vars) = true := decide_eq_true h1
    have : true = r := by rw [← hr.out, d1]; rfl
    subst this
    go_enter Try.func12, Try.ntmps12
    go_wp2_with fail
    go_ret
    exact ⟨rfl, below_new _ _⟩
  · have d1 : decide (40 < vars) = false := decide_eq_false h1
    by_cases h2 : 60 < (n : Int)
    · have d2 : decide (60 < (n : Int)) = true := decide_eq_true h2
      have : true = r := by rw [← hr.out, d1, d2]; rfl
      subst this
      have h3 : 60 < n := by omega
      go_enter Try.func12, Try.ntmps12
      go_wp2_with fail
      go_ret
      exact ⟨rfl, below_new _ _⟩
    · have d2 : decide (60 < (n : Int)) = false := decide_eq_false h2
      have : false = r := by rw [← hr.out, d1, d2]; rfl
      subst this
      have h3 : ¬ 60 < n := by omega
      go_enter Try.func12, Try.ntmps12
      go_wp2_with fail
      go_ret
      exact ⟨rfl, below_new _ _⟩
end Go.Proofs.Ytabjbpkojbdgaaa

/- The walk of ResEnds: it returns true. (Printed by wip/tools/resends.py.) -/
namespace Go.Proofs.Ytabjbpkojbdgaaa
open Go.RowKit
set_option linter.unusedSimpArgs false

theorem agn_proof : proofR 2 [[1, 2], [-1], [-2]] [(1, [])] = (0, 0) := by decide
theorem agn_of : ofF 2 [[1, 2], [-1], [-2]] [(1, [])] = some [(0, 2, 2), (3, 1, 1)] := by decide
theorem ofL_len {vars : Int} : ∀ (rs : List (Int × List Int)) (known : List (List Int)) (nums : List Int) (nx : Int) (out l : List R3), out.length ≤ 2000 → ofL vars rs known nums nx out = some l → l.length ≤ 2000
  | [], known, nums, nx, out, l, h, e => by rw [ofL] at e; injection e with e; rw [← e]; exact h
  | (k, x) :: r, known, nums, nx, out, l, h, e => by
    rw [ofL] at e
    split at e
    · injection e with e; rw [← e]; exact h
    · split at e
      · exact ofL_len r _ _ _ _ _ h e
      · split at e
        · cases e
        · exact ofL_len r _ _ _ _ _ (by omega) e
/-- The resolutions are as they must be, and end without literals. -/
theorem ends_plain {vars : Int} {xss : List (List Int)} {rs : List (Int × List Int)} {l : List R3} (hr : proofR vars xss rs = (0, 0)) (h : ofF vars xss rs = some l) :
    ∃ ll, resC vars xss l = (ll, 0, 0) ∧ ll.length = l.length ∧ (l = [] → xss.any (fun z => z.isEmpty) = true) ∧ (l ≠ [] → ll[l.length - 1]? = some []) := by
  obtain ⟨_, hst0, hacc⟩ := proofR_parts hr
  obtain ⟨_, hck, _, hrs⟩ := stepsR_ok hst0
  obtain ⟨_, v0, _, _, hrows⟩ := checkC_ok hck
  have hxl : ∀ c ∈ xss, Lits vars c := fun c hc => (hrows c hc).2
  obtain ⟨_, h1, h2⟩ := of_whole v0 hxl hrs hacc
  have hlen : l.length ≤ 2000 := ofL_len rs _ _ _ _ _ (by simp) h
  unfold resC
  rw [if_neg (by omega)]
  cases hany : xss.any (fun z => z.isEmpty)
  · obtain ⟨all', g1, g2, g3⟩ := h2 hany l h
    have hok := ressF_ok (vars := vars) (m := []) l xss 0 hxl (by rw [g1])
    rw [g1] at hok
    obtain ⟨_, e2, _⟩ := hok
    simp only at e2
    refine ⟨all'.drop xss.length, by rw [g1], by rw [List.length_drop, e2]; omega, fun e => absurd e g2, fun hne => ?_⟩
    have hpos : 0 < l.length := List.length_pos_iff.2 hne
    rw [List.getElem?_drop, ← g3, List.getLast?_eq_getElem?]
    congr 1
    omega
  · have := h1 hany
    rw [h] at this
    injection this with this
    subst this
    exact ⟨[], by rw [ressF]; simp, rfl, fun _ => rfl, fun hne => absurd rfl hne⟩

set_option maxHeartbeats 8000000 in
set_option maxRecDepth 100000 in
theorem resEnds_walk {vars : Int} {A B : Option Addr} {n c m d : Nat} {xss : List (List Int)} {rs : List (Int × List Int)} (w : World) (hv : I64 vars) (h : Grid w A n c xss) (h' : Steps w B m d rs) :
    Calls Try.prog 11 #[.agg #[.int .i64 vars, .slice A n c], .slice B m d] w fun e w' => e = .returned (.bool true) ∧ Below w.heap.size w w' := by
  have hbd := h.bd
  have hbd' := h'.bd
  have hlen := Lib.hid h.len
  have hlv := Lib.hid h'.len
  have G := Lib.hid h
  have HV := Lib.hid h'
  have hn63 : n ≤ 9223372036854775807 := by omega
  obtain ⟨hvy, hhv⟩ : ∃ r, Hid ((decide (40 < vars) || decide (60 < (n : Int))) = r) := ⟨_, rfl⟩
  obtain ⟨r1, r2, hr⟩ : ∃ r1 r2, Hid (proofR vars xss rs = (r1, r2)) := ⟨_, _, rfl⟩
  clear h h'
  cases hvy
  rotate_left
  · go_enter Try.func11, Try.ntmps11
    go_wp2_with fail
    refine (heavy_any _ _ _ _ _ hn63 _ hhv).mono ?_
    rintro e w1 ⟨rfl, hb1⟩
    obtain ⟨K_c0, B_w1, l_w1⟩ := blk1 hb1
    replace G := Lib.hid (G.out.keep B_w1)
    replace HV := Lib.hid (HV.out.keep B_w1)
    have HB := Lib.hid B_w1
    have K_c := Lib.hid K_c0
    clear hb1 B_w1 K_c0
    have cK_c_0 := K_c.out.cell 0
    have cK_c_1 := K_c.out.cell 1
    simp at cK_c_0 cK_c_1
    have zK_c := K_c.out.lt
    go_wp2_with fail
    go_ret
    exact ⟨rfl, HB.out⟩
  by_cases hm8 : 60 < m
  · have dm : decide ((60 : Int) < (m : Int)) = true := by simp; omega
    go_enter Try.func11, Try.ntmps11
    go_wp2_with fail
    refine (heavy_any _ _ _ _ _ hn63 _ hhv).mono ?_
    rintro e w1 ⟨rfl, hb1⟩
    obtain ⟨K_c0, B_w1, l_w1⟩ := blk1 hb1
    replace G := Lib.hid (G.out.keep B_w1)
    replace HV := Lib.hid (HV.out.keep B_w1)
    have HB := Lib.hid B_w1
    have K_c := Lib.hid K_c0
    clear hb1 B_w1 K_c0
    have cK_c_0 := K_c.out.cell 0
    have cK_c_1 := K_c.out.cell 1
    simp at cK_c_0 cK_c_1
    have zK_c := K_c.out.lt
    go_wp2_with fail
    go_ret
    exact ⟨rfl, HB.out⟩
  have dm : decide ((60 : Int) < (m : Int)) = false := by simp; omega
  by_cases hr1 : r1 = 0
  · subst hr1
    obtain rfl : r2 = 0 := by
      have := hr.out
      rw [proofR] at this
      by_cases g1 : (whyS vars xss rs).2.1 ≠ 0
      · rw [if_pos g1] at this; exact absurd (by rw [this]) g1
      · rw [if_neg g1] at this
        by_cases g2 : (whyS vars xss rs).1 ≠ -1
        · rw [if_pos g2] at this; simp at this
        · rw [if_neg g2] at this; simpa using this.symm
    obtain ⟨R, hR⟩ : ∃ q, Hid (ofF vars xss rs = q) := ⟨_, rfl⟩
    cases R
    · go_enter Try.func11, Try.ntmps11
      go_wp2_with fail
      refine (heavy_any _ _ _ _ _ hn63 _ hhv).mono ?_
      rintro e w1 ⟨rfl, hb1⟩
      obtain ⟨K_c0, B_w1, l_w1⟩ := blk1 hb1
      replace G := Lib.hid (G.out.keep B_w1)
      replace HV := Lib.hid (HV.out.keep B_w1)
      have HB := Lib.hid B_w1
      have K_c := Lib.hid K_c0
      clear hb1 B_w1 K_c0
      have cK_c_0 := K_c.out.cell 0
      have cK_c_1 := K_c.out.cell 1
      simp at cK_c_0 cK_c_1
      have zK_c := K_c.out.lt
      go_wp2_with fail
      refine (resOf_own _ _ _ _ _ _ xss rs vars _ G.out hv HV.out hr _ hR).mono ?_
      rintro e w2 ⟨rfl, hb2⟩
      have B_w2 := hb2
      replace G := Lib.hid (G.out.keep B_w2)
      replace HV := Lib.hid (HV.out.keep B_w2)
      replace K_c := Lib.hid (K_c.out.keep B_w2)
      replace HB := Lib.hid (below_next HB.out B_w2)
      clear hb2 B_w2
      clear cK_c_0 cK_c_1 zK_c
      have cK_c_0 := K_c.out.cell 0
      have cK_c_1 := K_c.out.cell 1
      simp at cK_c_0 cK_c_1
      have zK_c := K_c.out.lt
      go_wp2_with fail
      refine (against_any _).mono ?_
      rintro e w4 ⟨A5, n5, c5, rfl, hG5, hb4⟩
      obtain ⟨K_f0, B_w4, l_w4⟩ := blk1 hb4
      replace G := Lib.hid (G.out.keep B_w4)
      replace HV := Lib.hid (HV.out.keep B_w4)
      replace K_c := Lib.hid (K_c.out.keep B_w4)
      replace HB := Lib.hid (below_next HB.out B_w4)
      have K_f := Lib.hid K_f0
      clear hb4 B_w4 K_f0
      clear cK_c_0 cK_c_1 zK_c
      have cK_c_0 := K_c.out.cell 0
      have cK_c_1 := K_c.out.cell 1
      simp at cK_c_0 cK_c_1
      have zK_c := K_c.out.lt
      have cK_f_0 := K_f.out.cell 0
      have cK_f_1 := K_f.out.cell 1
      simp at cK_f_0 cK_f_1
      have zK_f := K_f.out.lt
      have GP := Lib.hid hG5
      clear hG5
      go_wp2_with fail
      refine (end_any _).mono ?_
      rintro e w5 ⟨A6, n6, c6, rfl, hS6, hb5⟩
      have B_w5 := hb5
      replace G := Lib.hid (G.out.keep B_w5)
      replace HV := Lib.hid (HV.out.keep B_w5)
      replace GP := Lib.hid (GP.out.keep B_w5)
      replace K_c := Lib.hid (K_c.out.keep B_w5)
      replace K_f := Lib.hid (K_f.out.keep B_w5)
      replace HB := Lib.hid (below_next HB.out B_w5)
      clear hb5 B_w5
      clear cK_c_0 cK_c_1 zK_c cK_f_0 cK_f_1 zK_f
      have cK_c_0 := K_c.out.cell 0
      have cK_c_1 := K_c.out.cell 1
      simp at cK_c_0 cK_c_1
      have zK_c := K_c.out.lt
      have cK_f_0 := K_f.out.cell 0
      have cK_f_1 := K_f.out.cell 1
      simp at cK_f_0 cK_f_1
      have zK_f := K_f.out.lt
      have SP := Lib.hid hS6
      clear hS6
      have hn5 : n5 = 3 := GP.out.len.symm
      subst hn5
      go_wp2_with fail
      refine (resOf_own _ _ _ _ _ _ [[1, 2], [-1], [-2]] [(1, [])] 2 _ GP.out ⟨by omega, by omega⟩ SP.out agn_proof _ agn_of).mono ?_
      rintro e w6 ⟨L6, nl6, cl6, rfl, hI6, hb6⟩
      have hl6 : nl6 = 2 := hI6.len.symm
      subst hl6
      clear hI6
      have B_w6 := hb6
      replace G := Lib.hid (G.out.keep B_w6)
      replace HV := Lib.hid (HV.out.keep B_w6)
      replace GP := Lib.hid (GP.out.keep B_w6)
      replace SP := Lib.hid (SP.out.keep B_w6)
      replace K_c := Lib.hid (K_c.out.keep B_w6)
      replace K_f := Lib.hid (K_f.out.keep B_w6)
      replace HB := Lib.hid (below_next HB.out B_w6)
      clear hb6 B_w6
      clear cK_c_0 cK_c_1 zK_c cK_f_0 cK_f_1 zK_f
      have cK_c_0 := K_c.out.cell 0
      have cK_c_1 := K_c.out.cell 1
      simp at cK_c_0 cK_c_1
      have zK_c := K_c.out.lt
      have cK_f_0 := K_f.out.cell 0
      have cK_f_1 := K_f.out.cell 1
      simp at cK_f_0 cK_f_1
      have zK_f := K_f.out.lt
      go_wp2_with fail
      go_ret
      exact ⟨rfl, below_next HB.out (below_new _ _)⟩
    · rename_i l
      have hck : Hid (checkC vars xss = (0, 0)) := by
        obtain ⟨_, hst0, _⟩ := proofR_parts hr.out
        obtain ⟨_, hck, _, _⟩ := stepsR_ok hst0
        exact (checkC_ok hck).1
      obtain ⟨ll, hll0, hll02, hll03, hll04⟩ := ends_plain hr.out hR.out
      have hll := Lib.hid hll0
      have hll2 := Lib.hid hll02
      have hll3 := Lib.hid hll03
      have hll4 := Lib.hid hll04
      clear hll0 hll02 hll03 hll04
      go_enter Try.func11, Try.ntmps11
      go_wp2_with fail
      refine (heavy_any _ _ _ _ _ hn63 _ hhv).mono ?_
      rintro e w1 ⟨rfl, hb1⟩
      obtain ⟨K_c0, B_w1, l_w1⟩ := blk1 hb1
      replace G := Lib.hid (G.out.keep B_w1)
      replace HV := Lib.hid (HV.out.keep B_w1)
      have HB := Lib.hid B_w1
      have K_c := Lib.hid K_c0
      clear hb1 B_w1 K_c0
      have cK_c_0 := K_c.out.cell 0
      have cK_c_1 := K_c.out.cell 1
      simp at cK_c_0 cK_c_1
      have zK_c := K_c.out.lt
      go_wp2_with fail
      refine (resOf_own _ _ _ _ _ _ xss rs vars _ G.out hv HV.out hr _ hR).mono ?_
      rintro e w2 ⟨L2, nl2, cl2, rfl, hL2, hb2⟩
      have B_w2 := hb2
      replace G := Lib.hid (G.out.keep B_w2)
      replace HV := Lib.hid (HV.out.keep B_w2)
      replace K_c := Lib.hid (K_c.out.keep B_w2)
      replace HB := Lib.hid (below_next HB.out B_w2)
      clear hb2 B_w2
      clear cK_c_0 cK_c_1 zK_c
      have cK_c_0 := K_c.out.cell 0
      have cK_c_1 := K_c.out.cell 1
      simp at cK_c_0 cK_c_1
      have zK_c := K_c.out.lt
      have IL := Lib.hid hL2
      clear hL2
      go_wp2_with fail
      refine (against_any _).mono ?_
      rintro e w4 ⟨A5, n5, c5, rfl, hG5, hb4⟩
      obtain ⟨K_f0, B_w4, l_w4⟩ := blk1 hb4
      replace G := Lib.hid (G.out.keep B_w4)
      replace HV := Lib.hid (HV.out.keep B_w4)
      replace IL := Lib.hid (IL.out.keep B_w4)
      replace K_c := Lib.hid (K_c.out.keep B_w4)
      replace HB := Lib.hid (below_next HB.out B_w4)
      have K_f := Lib.hid K_f0
      clear hb4 B_w4 K_f0
      clear cK_c_0 cK_c_1 zK_c
      have cK_c_0 := K_c.out.cell 0
      have cK_c_1 := K_c.out.cell 1
      simp at cK_c_0 cK_c_1
      have zK_c := K_c.out.lt
      have cK_f_0 := K_f.out.cell 0
      have cK_f_1 := K_f.out.cell 1
      simp at cK_f_0 cK_f_1
      have zK_f := K_f.out.lt
      have GP := Lib.hid hG5
      clear hG5
      go_wp2_with fail
      refine (end_any _).mono ?_
      rintro e w5 ⟨A6, n6, c6, rfl, hS6, hb5⟩
      have B_w5 := hb5
      replace G := Lib.hid (G.out.keep B_w5)
      replace HV := Lib.hid (HV.out.keep B_w5)
      replace IL := Lib.hid (IL.out.keep B_w5)
      replace GP := Lib.hid (GP.out.keep B_w5)
      replace K_c := Lib.hid (K_c.out.keep B_w5)
      replace K_f := Lib.hid (K_f.out.keep B_w5)
      replace HB := Lib.hid (below_next HB.out B_w5)
      clear hb5 B_w5
      clear cK_c_0 cK_c_1 zK_c cK_f_0 cK_f_1 zK_f
      have cK_c_0 := K_c.out.cell 0
      have cK_c_1 := K_c.out.cell 1
      simp at cK_c_0 cK_c_1
      have zK_c := K_c.out.lt
      have cK_f_0 := K_f.out.cell 0
      have cK_f_1 := K_f.out.cell 1
      simp at cK_f_0 cK_f_1
      have zK_f := K_f.out.lt
      have SP := Lib.hid hS6
      clear hS6
      have hn5 : n5 = 3 := GP.out.len.symm
      subst hn5
      go_wp2_with fail
      refine (resOf_own _ _ _ _ _ _ [[1, 2], [-1], [-2]] [(1, [])] 2 _ GP.out ⟨by omega, by omega⟩ SP.out agn_proof _ agn_of).mono ?_
      rintro e w6 ⟨L6, nl6, cl6, rfl, hI6, hb6⟩
      have hl6 : nl6 = 2 := hI6.len.symm
      subst hl6
      clear hI6
      have B_w6 := hb6
      replace G := Lib.hid (G.out.keep B_w6)
      replace HV := Lib.hid (HV.out.keep B_w6)
      replace IL := Lib.hid (IL.out.keep B_w6)
      replace GP := Lib.hid (GP.out.keep B_w6)
      replace SP := Lib.hid (SP.out.keep B_w6)
      replace K_c := Lib.hid (K_c.out.keep B_w6)
      replace K_f := Lib.hid (K_f.out.keep B_w6)
      replace HB := Lib.hid (below_next HB.out B_w6)
      clear hb6 B_w6
      clear cK_c_0 cK_c_1 zK_c cK_f_0 cK_f_1 zK_f
      have cK_c_0 := K_c.out.cell 0
      have cK_c_1 := K_c.out.cell 1
      simp at cK_c_0 cK_c_1
      have zK_c := K_c.out.lt
      have cK_f_0 := K_f.out.cell 0
      have cK_f_1 := K_f.out.cell 1
      simp at cK_f_0 cK_f_1
      have zK_f := K_f.out.lt
      have hl2 := Lib.hid IL.out.len
      go_wp2_with fail
      refine (res_check _ _ _ _ _ _ xss l vars _ (G.out.keep (below_new _ _)) hv (IL.out.keep (below_new _ _)) hck ll 0 0 hll).mono ?_
      rintro e w8 ⟨L8, nl8, cl8, rfl, hG8, hb8⟩
      obtain ⟨K_h0, B_w8, l_w8⟩ := blk1 hb8
      replace G := Lib.hid (G.out.keep B_w8)
      replace HV := Lib.hid (HV.out.keep B_w8)
      replace IL := Lib.hid (IL.out.keep B_w8)
      replace GP := Lib.hid (GP.out.keep B_w8)
      replace SP := Lib.hid (SP.out.keep B_w8)
      replace K_c := Lib.hid (K_c.out.keep B_w8)
      replace K_f := Lib.hid (K_f.out.keep B_w8)
      replace HB := Lib.hid (below_next HB.out B_w8)
      have K_h := Lib.hid K_h0
      clear hb8 B_w8 K_h0
      clear cK_c_0 cK_c_1 zK_c cK_f_0 cK_f_1 zK_f
      have cK_c_0 := K_c.out.cell 0
      have cK_c_1 := K_c.out.cell 1
      simp at cK_c_0 cK_c_1
      have zK_c := K_c.out.lt
      have cK_f_0 := K_f.out.cell 0
      have cK_f_1 := K_f.out.cell 1
      simp at cK_f_0 cK_f_1
      have zK_f := K_f.out.lt
      have cK_h_0 := K_h.out.cell 0
      have cK_h_1 := K_h.out.cell 1
      simp at cK_h_0 cK_h_1
      have zK_h := K_h.out.lt
      have GL := Lib.hid hG8
      clear hG8
      have hn8 : nl8 = nl2 := by have h1 := GL.out.len; have h2 := hl2.out; have h3 := hll2.out; omega
      subst hn8
      have dn : ((nl8 : Int) != (nl8 : Int)) = false := by simp
      have bL := IL.out.bd
      have bG := GL.out.bd
      by_cases hz : nl8 = 0
      · subst hz
        have hq : Hid (xss.any (fun z => z.isEmpty) = true) := hll3.out (List.length_eq_zero_iff.1 hl2.out)
        go_wp2_with fail
        refine (some_none _).mono ?_
        rintro e w9 ⟨rfl, hb9⟩
        obtain ⟨K_k0, B_w9, l_w9⟩ := blk1 hb9
        replace G := Lib.hid (G.out.keep B_w9)
        replace HV := Lib.hid (HV.out.keep B_w9)
        replace IL := Lib.hid (IL.out.keep B_w9)
        replace GP := Lib.hid (GP.out.keep B_w9)
        replace SP := Lib.hid (SP.out.keep B_w9)
        replace GL := Lib.hid (GL.out.keep B_w9)
        replace K_c := Lib.hid (K_c.out.keep B_w9)
        replace K_f := Lib.hid (K_f.out.keep B_w9)
        replace K_h := Lib.hid (K_h.out.keep B_w9)
        replace HB := Lib.hid (below_next HB.out B_w9)
        have K_k := Lib.hid K_k0
        clear hb9 B_w9 K_k0
        clear cK_c_0 cK_c_1 zK_c cK_f_0 cK_f_1 zK_f cK_h_0 cK_h_1 zK_h
        have cK_c_0 := K_c.out.cell 0
        have cK_c_1 := K_c.out.cell 1
        simp at cK_c_0 cK_c_1
        have zK_c := K_c.out.lt
        have cK_f_0 := K_f.out.cell 0
        have cK_f_1 := K_f.out.cell 1
        simp at cK_f_0 cK_f_1
        have zK_f := K_f.out.lt
        have cK_h_0 := K_h.out.cell 0
        have cK_h_1 := K_h.out.cell 1
        simp at cK_h_0 cK_h_1
        have zK_h := K_h.out.lt
        have cK_k_0 := K_k.out.cell 0
        have cK_k_1 := K_k.out.cell 1
        simp at cK_k_0 cK_k_1
        have zK_k := K_k.out.lt
        go_wp2_with fail
        refine (hasNone_any _ _ _ xss vars _ G.out true hq).mono ?_
        rintro e w10 ⟨rfl, hb10⟩
        have B_w10 := hb10
        replace G := Lib.hid (G.out.keep B_w10)
        replace HV := Lib.hid (HV.out.keep B_w10)
        replace IL := Lib.hid (IL.out.keep B_w10)
        replace GP := Lib.hid (GP.out.keep B_w10)
        replace SP := Lib.hid (SP.out.keep B_w10)
        replace GL := Lib.hid (GL.out.keep B_w10)
        replace K_c := Lib.hid (K_c.out.keep B_w10)
        replace K_f := Lib.hid (K_f.out.keep B_w10)
        replace K_h := Lib.hid (K_h.out.keep B_w10)
        replace K_k := Lib.hid (K_k.out.keep B_w10)
        replace HB := Lib.hid (below_next HB.out B_w10)
        clear hb10 B_w10
        clear cK_c_0 cK_c_1 zK_c cK_f_0 cK_f_1 zK_f cK_h_0 cK_h_1 zK_h cK_k_0 cK_k_1 zK_k
        have cK_c_0 := K_c.out.cell 0
        have cK_c_1 := K_c.out.cell 1
        simp at cK_c_0 cK_c_1
        have zK_c := K_c.out.lt
        have cK_f_0 := K_f.out.cell 0
        have cK_f_1 := K_f.out.cell 1
        simp at cK_f_0 cK_f_1
        have zK_f := K_f.out.lt
        have cK_h_0 := K_h.out.cell 0
        have cK_h_1 := K_h.out.cell 1
        simp at cK_h_0 cK_h_1
        have zK_h := K_h.out.lt
        have cK_k_0 := K_k.out.cell 0
        have cK_k_1 := K_k.out.cell 1
        simp at cK_k_0 cK_k_1
        have zK_k := K_k.out.lt
        go_wp2_with fail
        go_ret
        exact ⟨rfl, HB.out⟩
      have dz : ((nl8 : Int) == 0) = false := by rw [beq_eq_false_iff_ne]; omega
      have hlast : Hid (ll[nl8 - 1]? = some []) := by have := hll4.out (fun e => hz (by rw [← hl2.out, e]; rfl)); rw [hl2.out] at this; exact this
      obtain ⟨jl, rfl⟩ : ∃ j, nl8 = j + 1 := ⟨nl8 - 1, by omega⟩
      obtain ⟨bq, offq, Aq, nq, cq, xq, hAe, hbq, hcq, hIq, hxq⟩ := (GL.out.keep (below_new _ (.cells #[.int .i64 0, .int .i64 0] 28))).round (show jl < jl + 1 by omega)
      have hnq : nq = 0 := by
        have h1 := hxq.out
        have h2 := hlast.out
        rw [show jl + 1 - 1 = jl by omega, h1] at h2
        injection h2 with h2
        rw [← hIq.len, h2]; rfl
      subst hnq
      have ej : ((jl + 1 : Nat) : Int) - 1 = (jl : Int) := by omega
      have uj1 : (0 : Int) ≤ (jl : Int) := by omega
      have uj2 : (jl : Int) < ((jl + 1 : Nat) : Int) := by omega
      have zq := (cell_lt hcq).1
      subst hAe
      clear hIq hxq hbq
      go_wp2_with fail
      go_ret
      exact ⟨rfl, below_next HB.out (below_new _ _)⟩
  · have d1 : (r1 != 0) = true := by simpa using hr1
    go_enter Try.func11, Try.ntmps11
    go_wp2_with fail
    refine (heavy_any _ _ _ _ _ hn63 _ hhv).mono ?_
    rintro e w1 ⟨rfl, hb1⟩
    obtain ⟨K_c0, B_w1, l_w1⟩ := blk1 hb1
    replace G := Lib.hid (G.out.keep B_w1)
    replace HV := Lib.hid (HV.out.keep B_w1)
    have HB := Lib.hid B_w1
    have K_c := Lib.hid K_c0
    clear hb1 B_w1 K_c0
    have cK_c_0 := K_c.out.cell 0
    have cK_c_1 := K_c.out.cell 1
    simp at cK_c_0 cK_c_1
    have zK_c := K_c.out.lt
    go_wp2_with fail
    refine (resOf_wrong _ _ _ _ _ _ xss rs vars _ G.out hv HV.out r1 r2 hr hr1).mono ?_
    rintro e w2 ⟨rfl, hb2⟩
    have B_w2 := hb2
    replace G := Lib.hid (G.out.keep B_w2)
    replace HV := Lib.hid (HV.out.keep B_w2)
    replace K_c := Lib.hid (K_c.out.keep B_w2)
    replace HB := Lib.hid (below_next HB.out B_w2)
    clear hb2 B_w2
    clear cK_c_0 cK_c_1 zK_c
    have cK_c_0 := K_c.out.cell 0
    have cK_c_1 := K_c.out.cell 1
    simp at cK_c_0 cK_c_1
    have zK_c := K_c.out.lt
    go_wp2_with fail
    refine (against_any _).mono ?_
    rintro e w4 ⟨A5, n5, c5, rfl, hG5, hb4⟩
    obtain ⟨K_f0, B_w4, l_w4⟩ := blk1 hb4
    replace G := Lib.hid (G.out.keep B_w4)
    replace HV := Lib.hid (HV.out.keep B_w4)
    replace K_c := Lib.hid (K_c.out.keep B_w4)
    replace HB := Lib.hid (below_next HB.out B_w4)
    have K_f := Lib.hid K_f0
    clear hb4 B_w4 K_f0
    clear cK_c_0 cK_c_1 zK_c
    have cK_c_0 := K_c.out.cell 0
    have cK_c_1 := K_c.out.cell 1
    simp at cK_c_0 cK_c_1
    have zK_c := K_c.out.lt
    have cK_f_0 := K_f.out.cell 0
    have cK_f_1 := K_f.out.cell 1
    simp at cK_f_0 cK_f_1
    have zK_f := K_f.out.lt
    have GP := Lib.hid hG5
    clear hG5
    go_wp2_with fail
    refine (end_any _).mono ?_
    rintro e w5 ⟨A6, n6, c6, rfl, hS6, hb5⟩
    have B_w5 := hb5
    replace G := Lib.hid (G.out.keep B_w5)
    replace HV := Lib.hid (HV.out.keep B_w5)
    replace GP := Lib.hid (GP.out.keep B_w5)
    replace K_c := Lib.hid (K_c.out.keep B_w5)
    replace K_f := Lib.hid (K_f.out.keep B_w5)
    replace HB := Lib.hid (below_next HB.out B_w5)
    clear hb5 B_w5
    clear cK_c_0 cK_c_1 zK_c cK_f_0 cK_f_1 zK_f
    have cK_c_0 := K_c.out.cell 0
    have cK_c_1 := K_c.out.cell 1
    simp at cK_c_0 cK_c_1
    have zK_c := K_c.out.lt
    have cK_f_0 := K_f.out.cell 0
    have cK_f_1 := K_f.out.cell 1
    simp at cK_f_0 cK_f_1
    have zK_f := K_f.out.lt
    have SP := Lib.hid hS6
    clear hS6
    have hn5 : n5 = 3 := GP.out.len.symm
    subst hn5
    go_wp2_with fail
    refine (resOf_own _ _ _ _ _ _ [[1, 2], [-1], [-2]] [(1, [])] 2 _ GP.out ⟨by omega, by omega⟩ SP.out agn_proof _ agn_of).mono ?_
    rintro e w6 ⟨L6, nl6, cl6, rfl, hI6, hb6⟩
    have hl6 : nl6 = 2 := hI6.len.symm
    subst hl6
    clear hI6
    have B_w6 := hb6
    replace G := Lib.hid (G.out.keep B_w6)
    replace HV := Lib.hid (HV.out.keep B_w6)
    replace GP := Lib.hid (GP.out.keep B_w6)
    replace SP := Lib.hid (SP.out.keep B_w6)
    replace K_c := Lib.hid (K_c.out.keep B_w6)
    replace K_f := Lib.hid (K_f.out.keep B_w6)
    replace HB := Lib.hid (below_next HB.out B_w6)
    clear hb6 B_w6
    clear cK_c_0 cK_c_1 zK_c cK_f_0 cK_f_1 zK_f
    have cK_c_0 := K_c.out.cell 0
    have cK_c_1 := K_c.out.cell 1
    simp at cK_c_0 cK_c_1
    have zK_c := K_c.out.lt
    have cK_f_0 := K_f.out.cell 0
    have cK_f_1 := K_f.out.cell 1
    simp at cK_f_0 cK_f_1
    have zK_f := K_f.out.lt
    go_wp2_with fail
    go_ret
    exact ⟨rfl, below_next HB.out (below_new _ _)⟩
end Go.Proofs.Ytabjbpkojbdgaaa

/- The law ResEnds holds: for every input it returns true, and each argument reads behind the call as it read before. -/
namespace Go.Proofs.Ytabjbpkojbdgaaa
open Go.ChangeShapes Go.WideShapes Go.ChangeAt Go.RowKit Go.Deep Go.Joins
set_option linter.unusedVariables false

theorem resEnds_knob : ownKnob Try.prog.godebug = none := by kernel_rfl
theorem resEnds_laidOut : laidOutB Try.prog = true := by kernel_rfl

set_option maxRecDepth 100000 in
theorem resEnds_lifted (os : Os) (started : os.Started) (H : Type) (enc : TypeId × Value → H) :
    ReturnsInHanded {} Try.checked os 11 .any (Rows.resEndsSpec.pre6 enc Try.prog Try.f11 Rows.resEndsRow.domain false) (Rows.resEndsSpec.post enc Try.prog Try.f11 false true false false) := by
  refine returnsInHanded_of_change (C := Try.checked) resEnds_knob started (by kernel_rfl) Try.func11
    (ChangeSpec.witness6 (enc := enc) (C := Try.checked) false ⟨#[], #[.agg #[.int .i64 0, .slice none 0 0], .slice none 0 0], []⟩ 8 (by kernel_rfl) (by kernel_rfl) (by kernel_rfl) (by kernel_rfl)) ?_
  intro W base args ds gs before hval0 hW hcnd _
  have hval : ∀ (j : Nat) t v, Try.f11.params[j]? = some t → args[j]? = some v → Value.okWide Try.prog W .any base t v := hval0
  have hW' := hW
  obtain ⟨p, q, hA0, hV, rfl, hfz, hnd⟩ := hW
  have hA : DataW.TrodAll enc Try.prog W 0 (fun _ => true) true Try.f11.params.toList args.toList ds p := hA0
  rw [Try.params11] at hA hval
  obtain ⟨v0, vs0, d0, ds0, p0, q0, hargs, rfl, rfl, h0, r0⟩ := trodAll_cons hA
  obtain ⟨v1, vs1, d1, ds1, p1, q1, rfl, rfl, rfl, h1, r1⟩ := trodAll_cons r0
  obtain ⟨rfl, rfl, rfl⟩ := trodAll_nil r1
  obtain rfl : args = #[v0, v1] := by cases args; simp_all
  obtain ⟨rfl, rfl⟩ := trodVars_none hV
  have k0 := h0
  have lt0 : ∀ x ∈ p0, x.block < W.heap.size := by obtain ⟨m, hm⟩ := k0; exact DataW.trod_lt m _ _ _ hm
  obtain ⟨vars0, A0, n0, c0, x0, rfl, wv0, w0⟩ := rd_cnf Try.underlying24 (by kernel_rfl) (by kernel_rfl) rfl rfl Try.underlying3 Try.underlying22 Try.underlying25 Try.underlying3 (by kernel_rfl) (by kernel_rfl) (hval 0 24 v0 rfl rfl) h0
  have k1 := h1
  have lt1 : ∀ x ∈ p1, x.block < W.heap.size := by obtain ⟨m, hm⟩ := k1; exact DataW.trod_lt m _ _ _ hm
  obtain ⟨A1, n1, c1, rfl⟩ := okWide_slice Try.underlying57 (hval 1 57 v1 rfl rfl)
  obtain ⟨fuel1, hf1⟩ := h1
  obtain ⟨B1, m1, e1, x1, eq1, w1⟩ := rd_steps Try.underlying57 Try.underlying102 (by kernel_rfl) Try.underlying3 Try.underlying25 (by kernel_rfl) (by kernel_rfl) rfl rfl rfl rfl rfl rfl Try.underlying96 (by kernel_rfl) rfl rfl Try.underlying100 (by kernel_rfl) rfl rfl rfl rfl rfl rfl rfl rfl Try.underlying98 (by kernel_rfl) rfl rfl rfl rfl rfl rfl hf1
  cases eq1
  clear hA0 hval0
  refine (resEnds_walk _ wv0 w0 w1).mono fun e W' ⟨he, bel⟩ => ?_
  subst he
  exact ⟨_, rfl, _, _, _, [], _, [], hW', trodAll_mk1 (shut_bool Try.underlying4 _), (trodAll_cons_mk (Below.trod resEnds_laidOut (by kernel_rfl) (of_decide_eq_true (by kernel_rfl)) k0 bel lt0) (trodAll_cons_mk (Below.trod resEnds_laidOut (by kernel_rfl) (of_decide_eq_true (by kernel_rfl)) k1 bel lt1) trodAll_mk0)), rfl, bel.frame _, fun h => by cases h⟩

/-- THE STATEMENT. -/
theorem resEnds_holds : Rows.ResEndsSaid :=
  OpenClaim.holds_of_wide 11 Try.f11 rfl rfl rfl rfl rfl rfl rfl ⟨rfl, rfl, rfl, rfl, rfl⟩ rfl rfl rfl rfl rfl (by kernel_rfl) Try.func11 (by kernel_rfl)
    (of_decide_eq_true (by kernel_rfl)) (by unfold Func.isWrapper; first | (rw [if_pos (by decide +kernel)]; kernel_rfl) | (rw [if_neg (by decide +kernel)]; exact ⟨rfl, rfl⟩))
    (fun os started H enc _ => resEnds_lifted os started H enc)
end Go.Proofs.Ytabjbpkojbdgaaa
