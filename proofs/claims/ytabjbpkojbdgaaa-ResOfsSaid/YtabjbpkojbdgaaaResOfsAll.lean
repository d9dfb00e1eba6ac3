/- ResOfsAll: the texts ResOf, Unfolded, StepsWrong, Refused, ProofLaw, Against, Heavy, ResOfsWalk, ResOfsLaw in one. -/
import Derived.Test.YtabjbpkojbdgaaaTrStep
import Derived.Test.YtabjbpkojbdgaaaWhyReqAll
import Derived.Test.YtabjbpkojbdgaaaUnfKit
import Derived.Test.YtabjbpkojbdgaaaRefAsk
import Derived.Test.YtabjbpkojbdgaaaResRef
import Derived.Test.YtabjbpkojbdgaaaStepChk
import Derived.Test.YtabjbpkojbdgaaaStepPlain
import Derived.Test.YtabjbpkojbdgaaaSteps
import Derived.Test.YtabjbpkojbdgaaaRefSort
import Derived.Test.YtabjbpkojbdgaaaCloneR
import Derived.Test.YtabjbpkojbdgaaaNormA
import Derived.Test.YtabjbpkojbdgaaaCompact
import Derived.Test.YtabjbpkojbdgaaaProg
import Derived.Test.YtabjbpkojbdgaaaBase
import Derived.Test.YtabjbpkojbdgaaaRows
import Derived.Test.YtabjbpkojbdgaaaOpen
/- Contracts of res.Of. (Printed by wip/tools/resof.py.) -/
namespace Go.Proofs.Ytabjbpkojbdgaaa
open Go.RowKit Go.Maps Go.WideMaps
set_option linter.unusedSimpArgs false

set_option maxHeartbeats 2000000 in
theorem resOf_wrong (A B : Option Addr) (n c m d : Nat) (xss : List (List Int)) (rs : List (Int × List Int)) (vars : Int) (w : World) (h : Grid w A n c xss) (hv : I64 vars) (h' : Steps w B m d rs) (r1 r2 : Int) (hr : Hid (proofR vars xss rs = (r1, r2))) (h0 : r1 ≠ 0) :
    Calls Try.prog 40 #[.agg #[.int .i64 vars, .slice A n c], .slice B m d] w (RetV (.tuple #[.slice none 0 0, .agg #[.int .i64 r1, .int .i64 r2]]) w) := by
  obtain ⟨z, q1, q2, hz⟩ : ∃ z q1 q2, Hid (whyS vars xss rs = (z, q1, q2)) := ⟨_, _, _, rfl⟩
  have hr2 : Hid ((if q1 ≠ 0 then (q1, q2) else if z ≠ -1 then ((11 : Int), z) else (0, 0)) = (r1, r2)) := by have := hr.out; rw [proofR, hz.out] at this; exact this
  clear hr
  go_enter Try.func40, Try.ntmps40
  go_wp2_with fail
  refine (why_any _ _ _ _ _ _ xss rs vars _ (h.keep (below_alloc (below_new _ _) _)) hv (h'.keep (below_alloc (below_new _ _) _)) z q1 q2 hz).mono ?_
  rintro e w1 ⟨rfl, hb1⟩
  obtain ⟨K_c0, K_r0, B_w1, l_w1⟩ := two_blks hb1
  have KR := Lib.hid K_r0
  have HB1 := Lib.hid B_w1
  clear hb1 K_c0 K_r0 B_w1
  by_cases hq1 : q1 = 0
  · subst hq1
    have hz1 : z ≠ -1 := fun e => by have := hr2.out; rw [if_neg (by simp), if_neg (by simp [e])] at this; exact h0 (Prod.mk.inj this).1.symm
    obtain ⟨rfl, rfl⟩ : 11 = r1 ∧ z = r2 := by have := hr2.out; rw [if_neg (by simp), if_pos hz1] at this; simpa using this
    have d1 : (z == -1) = false := by rw [beq_eq_false_iff_ne]; exact hz1
    have d2 : (z != -1) = true := by simpa using hz1
    obtain ⟨q0, q9⟩ := KR.out.put2 (.int .i64 11) (.int .i64 z)
    have Q0 := Lib.hid q0
    have Q9 := Lib.hid q9
    have t0 := KR.out.cell 0
    have t1 := KR.out.cell 1
    have tf0 := KR.out.frozen 0
    have tf1 := KR.out.frozen 1
    simp at t0 t1
    have l3 := KR.out.lt
    have BF := Lib.hid (below_put2 HB1.out (g := w.heap.size + 1) (by omega) (.int .i64 11) (.int .i64 z))
    clear q0 q9
    go_wp2_with fail
    exact bodyPost_ret (v := .tuple #[.slice none 0 0, .agg #[.int .i64 11, .int .i64 z]]) (by simp [results, Try.results40, go_sem, Q0.out, Q9.out, l3]) rfl ⟨rfl, below_alloc BF.out _⟩
  · obtain ⟨rfl, rfl⟩ : q1 = r1 ∧ q2 = r2 := by have := hr2.out; rw [if_pos hq1] at this; simpa using this
    have d1 : (q1 != 0) = true := by simpa using hq1
    have e0 := KR.out.cell 0
    have e1 := KR.out.cell 1
    have f0 := KR.out.frozen 0
    have f1 := KR.out.frozen 1
    simp at e0 e1
    have lr := KR.out.lt
    go_wp2_with fail
    go_region
    go_wp2_with fail
    refine bodyPost_ret (v := .tuple #[.slice none 0 0, .agg #[.int .i64 q1, .int .i64 q2]]) (by simp [results, Try.results40, go_sem, e0, e1, lr]) rfl ⟨rfl, ?_⟩
    exact ((below_put2 HB1.out (g := w.heap.size + 1) (by omega) _ _).alloc (by simp; omega) _).drew


/-- What a step leaves is as what it found. -/
theorem stpF_ok {vars : Int} (v0 : 0 ≤ vars) {known known' : List (List Int)} {nums nums' : List Int} {nx nx' : Int} {out out' : List R3} {x : List Int} (hk : ∀ c ∈ known, Lits vars c) (hn : ∀ q ∈ nums, 0 ≤ q ∧ q < nx) (hl : nums.length = known.length) (hx : Lits vars x)
    (h : stpF vars known nums nx out x = (known', nums', nx', out')) : (∀ c ∈ known', Lits vars c) ∧ (∀ q ∈ nums', 0 ≤ q ∧ q < nx') ∧ nx' - out'.length = nx - out.length ∧ known'.length ≤ known.length + 1 := by
  rw [stpF] at h
  by_cases ha : (askF vars known (negF x)).2.2 < 0
  · rw [if_pos ha] at h
    simp only [Prod.mk.injEq] at h
    obtain ⟨rfl, rfl, rfl, rfl⟩ := h
    exact ⟨hk, hn, rfl, by omega⟩
  · rw [if_neg ha] at h
    have ok := runF_ok v0 hk (vars.toNat + 1) (negF x) ((negF x).map fun _ => -1) hx.neg (by omega)
    generalize hrr : askF vars known (negF x) = rr at ha h
    unfold askF at hrr
    rw [hrr] at ok
    obtain ⟨t, y, a⟩ := rr
    simp only at ok ha h
    have hb := ok.bad (by omega)
    have hak : a.toNat < known.length := by omega
    have han : a.toNat < nums.length := by omega
    have hrow : Lits vars (known.getD a.toNat []) := by rw [List.getD_eq_getElem?_getD, List.getElem?_eq_getElem hak]; exact hk _ (List.getElem_mem hak)
    have hnum : 0 ≤ nums.getD a.toNat 0 ∧ nums.getD a.toNat 0 < nx := by rw [List.getD_eq_getElem?_getD, List.getElem?_eq_getElem han]; exact hn _ (List.getElem_mem han)
    obtain ⟨g0, g1, g2, g3, g4, _⟩ := trF_num (nums := nums) (t := t) (y := y) hk t.length (sortF (known.getD a.toNat [])) (nums.getD a.toNat 0) nx out hrow.sortF hnum.1 hnum.2
    generalize trF known nums t y t.length (sortF (known.getD a.toNat [])) (nums.getD a.toNat 0) nx out = q at h g0 g1 g2 g3 g4
    obtain ⟨q1, q2, q3, q4⟩ := q
    simp only at h g0 g1 g2 g3 g4
    simp only [Prod.mk.injEq] at h
    obtain ⟨rfl, rfl, rfl, rfl⟩ := h
    refine ⟨snoc_lits hk g0, fun z hz => ?_, g3, by simp⟩
    rcases List.mem_append.1 hz with hz | hz
    · have := hn z hz; omega
    · simp at hz; subst hz; exact ⟨g1, g2⟩
theorem natsF_snoc (k : Nat) : natsF (k + 1) = natsF k ++ [(k : Int)] := by unfold natsF; rw [List.range_succ, List.map_append]; rfl
def RetOf (R : Option (List R3)) (w : World) (e : Ending) (w' : World) : Prop :=
  match R with
  | some l => ∃ O no co, e = .returned (.tuple #[.slice O no co, .agg #[.int .i64 0, .int .i64 0]]) ∧ Trips w' O no co l ∧ Below w.heap.size w w'
  | none => e = .returned (.tuple #[.slice none 0 0, .agg #[.int .i64 2, .int .i64 (-1)]]) ∧ Below w.heap.size w w'

set_option maxHeartbeats 16000000 in
set_option maxRecDepth 100000 in
theorem resOf_own (A B : Option Addr) (n c m d : Nat) (xss : List (List Int)) (rs : List (Int × List Int)) (vars : Int) (w : World) (h : Grid w A n c xss) (hv : I64 vars) (h' : Steps w B m d rs) (hr : Hid (proofR vars xss rs = (0, 0))) (R : Option (List R3)) (hR : Hid (ofF vars xss rs = R)) :
    Calls Try.prog 40 #[.agg #[.int .i64 vars, .slice A n c], .slice B m d] w (RetOf R w) := by
  obtain ⟨hwhy, hst0, hacc⟩ := proofR_parts hr.out
  obtain ⟨_, hck, hm3, hrs⟩ := stepsR_ok hst0
  obtain ⟨_, v0, v1, hn400, hrows⟩ := checkC_ok hck
  have hbd := h.bd
  have hbd' := h'.bd
  have hlen := Lib.hid h'.len
  have hlx := Lib.hid h.len
  have G := Lib.hid h
  have V := Lib.hid h'
  have HWS := Lib.hid hwhy
  have HRSL : Hid (∀ r ∈ rs, (r.1 = 1 ∨ r.1 = 2) ∧ Lits vars r.2) := hrs
  have HXL : Hid (∀ x ∈ xss, Lits vars x) := fun x hx => (hrows x hx).2
  have hm3' : m ≤ 3000 := by have := hlen.out; omega
  have hn4 : n ≤ 400 := by have := hlx.out; omega
  have v9 : vars ≤ 1000 := by omega
  obtain ⟨i0, hi0, hz0, hz1, hz2⟩ := info_parts int_info
  clear h h' hwhy hst0 hacc hck hrs hrows hr hn400 hm3
  go_enter Try.func40, Try.ntmps40
  go_wp2_with fail
  refine (why_any _ _ _ _ _ _ xss rs vars _ (G.out.keep (below_alloc (below_new _ _) _)) hv (V.out.keep (below_alloc (below_new _ _) _)) (-1) 0 0 HWS).mono ?_
  rintro e w1 ⟨rfl, hb1⟩
  obtain ⟨K_c0, K_r0, B_w1, l_w1⟩ := two_blks hb1
  have c0 := K_c0.cell 0
  have c1 := K_c0.cell 1
  simp at c0 c1
  have lc : w.heap.size < w1.heap.size := by omega
  have HB1 := Lib.hid B_w1
  have KC := Lib.hid K_c0
  have KR := Lib.hid K_r0
  clear hb1 K_c0 K_r0 B_w1
  obtain ⟨wa, hwa⟩ : ∃ wa : World, wa = w1.alloc (.cells #[.int .i64 0, .int .i64 0] 28) := ⟨_, rfl⟩
  have hbla : Hid (Below w1.heap.size w1 wa) := by rw [hwa]; exact below_new _ _
  have HBA := Lib.hid (below_next HB1.out hbla.out)
  have HWA := Lib.hid hwa
  have hwa2 : Hid (w.heap.size + 2 ≤ wa.heap.size) := by have h1 := hbla.out.size; show _ ≤ _; omega
  have GA := Lib.hid (G.out.keep HBA.out)
  have VA := Lib.hid (V.out.keep HBA.out)
  have KCA := Lib.hid (KC.out.keep hbla.out)
  have KRA := Lib.hid (KR.out.keep hbla.out)
  clear hwa c0 c1 lc G V KC KR
  go_wp2_with fail
  rw [← HWA.out]
  clear HWA
  obtain ⟨vs0, hvs0, hrp0⟩ := GA.out.rowsP 3 (Nat.le_refl _)
  obtain ⟨wd, hwd⟩ : ∃ wd : World, wd = wa.drew := ⟨_, rfl⟩
  have hbd0 : Below wa.heap.size wa wd := by rw [hwd]; exact below_drewN _ 1
  have hS : wd.cell? ⟨w.heap.size, 1, none⟩ = some (.slice A n c) := by have := (KCA.out.keep hbd0).cell 1; simpa using this
  have HVS := Lib.hid (hvs0.keep hbd0)
  have HRP := Lib.hid (hrp0.keep hbd0)
  have HBD := Lib.hid hbd0
  have zcd := (KCA.out.keep hbd0).lt
  have hszd := hbd0.size
  clear hvs0 hrp0 hbd0
  refine wp_region_tail (fun w' => w'.cell? ⟨w.heap.size, 1, none⟩ = some (.slice A n c)) [] (by kernel_rfl) ?_
  change wpAnyT _ _ _ _ _ _ _ _ _ wa.drew
  rw [← hwd]
  clear hwd
  refine take0 (i := 0) (oi := _) (v := ?_) rfl (by kernel_rfl) (by kernel_rfl) (by kernel_rfl) (fun _ _ _ h => h) rfl (Or.inl ⟨by rfl, ?_⟩) (fun _ => hS) ?_
  rotate_left
  · intro w0; go_simp; with_reducible rfl
  (try simp only [Act.put, List.setIfInBounds_toArray, List.set_cons_zero, List.set_cons_succ])
  refine takeS (i := 1) (oi := _) (v := ?_) rfl (by kernel_rfl) (by kernel_rfl) (by kernel_rfl) (fun _ _ _ h => h) rfl (by kernel_rfl) (by kernel_rfl) (Or.inl ⟨by rfl, ?_⟩) hS ?_
  rotate_left
  · intro w0 hSw; (try dsimp only at hSw); go_simp; with_reducible rfl
  (try simp only [Act.put, List.setIfInBounds_toArray, List.set_cons_zero, List.set_cons_succ])
  refine take0 (i := 3) (oi := _) (v := ?_) rfl (by kernel_rfl) (by kernel_rfl) (by kernel_rfl) (fun _ _ _ h => h) rfl (Or.inl ⟨by rfl, ?_⟩) (fun _ => hS) ?_
  rotate_left
  · intro w0; go_simp; with_reducible rfl
  (try simp only [Act.put, List.setIfInBounds_toArray, List.set_cons_zero, List.set_cons_succ])
  refine takeS (i := 4) (oi := _) (v := ?_) rfl (by kernel_rfl) (by kernel_rfl) (by kernel_rfl) (fun _ _ _ h => h) rfl (by kernel_rfl) (by kernel_rfl) (Or.inl ⟨by rfl, ?_⟩) hS ?_
  rotate_left
  · intro w0 hSw; (try dsimp only at hSw); go_simp; with_reducible rfl
  (try simp only [Act.put, List.setIfInBounds_toArray, List.set_cons_zero, List.set_cons_succ])
  refine take0 (i := 5) (oi := _) (v := ?_) rfl (by kernel_rfl) (by kernel_rfl) (by kernel_rfl) (fun _ _ _ h => h) rfl (Or.inl ⟨by rfl, ?_⟩) (fun _ => hS) ?_
  rotate_left
  · intro w0; go_simp; with_reducible rfl
  (try simp only [Act.put, List.setIfInBounds_toArray, List.set_cons_zero, List.set_cons_succ])
  refine oneT (i := 2) (by kernel_rfl) rfl (by rfl) (fun Kq hK => ?_)
  go_simp
  refine (clone_rows A n c wa.heap.size xss wd vs0 HVS.out HRP.out (by omega) hszd).mono ?_
  rintro e w2 ⟨L0, n0, cl0, rfl, hO0, hb2⟩
  have hl0 := hO0.len
  rw [hlx.out] at hl0
  subst hl0
  have hO0' : Hid (OwnP 25 3 w2 wa.heap.size wa.heap.size L0 n cl0 xss) := hO0.mono hszd (Nat.le_refl _)
  have HB2 := Lib.hid (below_next HBD.out hb2)
  have hS2 := keepBox hb2 hS
  have zc2 := (cell_lt hS2).1
  clear hO0 hb2 HVS HRP hS zcd HBD
  refine hK _ _ (fun _ => hS2) ?_
  clear hK
  (try simp only [Act.put, List.setIfInBounds_toArray, List.set_cons_zero, List.set_cons_succ])
  refine take0 (i := 6) (oi := _) (v := ?_) rfl (by kernel_rfl) (by kernel_rfl) (by kernel_rfl) (fun _ _ _ h => h) rfl (Or.inl ⟨by rfl, ?_⟩) (fun _ => hS2) ?_
  rotate_left
  · intro w0; go_simp; with_reducible rfl
  (try simp only [Act.put, List.setIfInBounds_toArray, List.set_cons_zero, List.set_cons_succ])
  refine oneT (i := 7) (by kernel_rfl) rfl (by rfl) (fun Kq hK => ?_)
  go_simp
  obtain ⟨wb, hwb⟩ : ∃ z : World, z = w2.alloc (.cells #[.slice L0 n cl0, .slice none 0 0, .int .i64 n, .slice none 0 0] 111) := ⟨_, rfl⟩
  have hbb : Below w2.heap.size w2 wb := by rw [hwb]; exact below_new _ _
  have KX0 : Hid (Blk wb w2.heap.size 111 #[.slice L0 n cl0, .slice none 0 0, .int .i64 n, .slice none 0 0]) := by rw [hwb]; exact Blk.new _ _ _
  have hlo : wa.heap.size ≤ w2.heap.size := HB2.out.size
  obtain ⟨gx, hgx⟩ : ∃ q, q = w2.heap.size := ⟨_, rfl⟩
  have HT0 : Hid (TrG wa wb gx #[.slice L0 n cl0, .slice none 0 0, .int .i64 n, .slice none 0 0] L0 n cl0 none 0 0 none 0 0 xss (natsF 0) []) := by
    rw [hgx]
    exact ⟨below_next HB2.out hbb, hlo, KX0.out, (OwnF.of hO0'.out).keep hbb, Own.nil _ _ _, OwnR.nil _ _⟩
  have hS3 := keepBox hbb hS2
  rw [← hwb, ← hgx]
  clear hwb hbb KX0 hgx hO0'
  refine hK _ _ (fun _ => hS3) ?_
  clear hK
  (try simp only [Act.put, List.setIfInBounds_toArray, List.set_cons_zero, List.set_cons_succ])
  refine take0 (i := 8) (oi := _) (v := ?_) rfl (by kernel_rfl) (by kernel_rfl) (by kernel_rfl) (fun _ _ _ h => h) rfl (Or.inl ⟨by rfl, ?_⟩) (fun _ => hS3) ?_
  rotate_left
  · intro w0; go_simp; with_reducible rfl
  (try simp only [Act.put, List.setIfInBounds_toArray, List.set_cons_zero, List.set_cons_succ])
  refine doneT (by kernel_rfl) ?_ _
  have HBb := Lib.hid HT0.out.bl
  have c1 := hS3
  have zc := (cell_lt hS3).1
  clear HB2 hS2 zc2 hS3 hlo
  go_wp2_with fail
  go_loopw [37] (fun s wr => ∃ (k : Nat) (N : Option Addr) (cn : Nat), k ≤ n ∧ s = .int .i64 k ∧ Hid (TrG wa wr gx #[.slice L0 n cl0, .slice N k cn, .int .i64 n, .slice none 0 0] L0 n cl0 N k cn none 0 0 xss (natsF k) [])) (fun i _ => n - (intOf i).toNat)
  case atStart => exact ⟨0, none, 0, Nat.zero_le _, rfl, HT0⟩
  case round =>
    clear HT0 c1 zc
    obtain ⟨k, N, cn, hk, rfl, hT⟩ := hrel
    have hwz := hT.out.bl.size
    by_cases hkn : k < n
    · have k1 := hT.out.tb.cell 1
      simp at k1
      have kl := hT.out.tb.lt
      have hS1 := sl_one wr 3 (.int .i64 (k : Int)) rfl
      have HT1 := Lib.hid (hT.out.keep (below_new wr (.cells #[.int .i64 (k : Int)] 3)))
      have hz9 : wa.heap.size ≤ (wr.alloc (.cells #[.int .i64 (k : Int)] 3)).heap.size := by simp; omega
      go_wp2_with (first
        | (at_builtin
           refine wpList_append_sl _ rfl (.tmp 44) (.tmp 46) _ rfl wa.heap.size 3 i0 _ 8 Try.underlying25 hi0 hz0 hz1 hz2 rfl N k cn _ rfl HT1.out.no_ (some ⟨wr.heap.size, 0, none⟩) 1 1 _ rfl hS1 (by simp [Value.oneCell']) (by simp only [maxLen]; omega) (by omega) hz9 ?_
           intro N2 cn2 w6 hO2 hG2 hA2
           have HT6 := Lib.hid (HT1.out.growN hO2 hG2 hA2)
           have kf6 := HT6.out.tb.frozen 1
           have kc6 := HT6.out.tb.cell 1
           simp at kc6
           have kl6 := HT6.out.tb.lt
           have HT7 : Hid (TrG wa (w6.setCell ⟨gx, 1, none⟩ (.slice N2 (k + 1) cn2)) gx #[.slice L0 n cl0, .slice N2 (k + 1) cn2, .int .i64 n, .slice none 0 0] L0 n cl0 N2 (k + 1) cn2 none 0 0 xss (natsF (k + 1)) []) := by
             have := HT6.out.put 1 (.slice N2 (k + 1) cn2)
             rw [natsF_snoc]
             simpa [Hid] using this
           clear hO2 hG2 hA2))
      go_roundw
      case rel => exact ⟨k + 1, N2, cn2, by omega, by go_num, HT7⟩
      case measure => simp [intOf] <;> omega
    obtain rfl : k = n := by omega
    have hR0 : Hid (ofL vars (rs.drop 0) xss (natsF k) k [] = R) := by have := hR.out; unfold ofF at this; rw [hlx.out] at this; exact this
    have hN0 : Hid (∀ q ∈ natsF k, 0 ≤ q ∧ q < (k : Int)) := fun q hq => by
      unfold natsF at hq
      obtain ⟨i, hi, rfl⟩ := List.mem_map.1 hq
      have := List.mem_range.1 hi
      omega
    go_wp2_with fail
    go_loopw [53] (fun s wr => ∃ (j nk ck cn no co : Nat) (K N O : Option Addr) (known : List (List Int)) (nums : List Int) (nx : Int) (out : List R3), j ≤ m ∧ s = .int .i64 j ∧ nk ≤ k + j ∧ Hid (TrG wa wr gx #[.slice K nk ck, .slice N nk cn, .int .i64 nx, .slice O no co] K nk ck N nk cn O no co known nums out) ∧ Hid ((∀ x ∈ known, Lits vars x) ∧ (∀ q ∈ nums, 0 ≤ q ∧ q < nx) ∧ nx - out.length = k ∧ out.length ≤ 2000) ∧ Hid (ofL vars (rs.drop j) known nums nx out = R)) (fun i _ => m - (intOf i).toNat)
    case atStart => exact ⟨0, k, cl0, cn, 0, 0, L0, N, none, xss, natsF k, k, [], Nat.zero_le _, rfl, by omega, hT, ⟨HXL.out, hN0.out, by simp, by simp⟩, hR0⟩
    case round =>
      clear hR0 hN0 hT hR
      obtain ⟨j, nk, ck, cn', no, co, K, N', O, known, nums, nx, out, hj, rfl, hnk, hT, hI, hgo⟩ := hrel
      have hnol := hT.out.oo.len
      have hkl := hT.out.ko.p.len
      have hnl := hT.out.no_.len
      rw [List.length_map] at hnl
      by_cases hjm : j < m
      · obtain ⟨b, off, kd, X, nX, cX, xs, X2, n2, c2, i3, i4, i5, X6, n6, c6, i7, i8, hBe, hb, s0, s1, s2, s3, s4, s5, s6, s7, s8, hkd, hxs, hrk⟩ := (VA.out.keep hT.out.bl).round hjm
        subst hBe
        obtain ⟨hkk, hxl⟩ := HRSL.out (kd, xs) (List.mem_of_getElem? hrk.out)
        have y1 : (0 : Int) ≤ (j : Int) := by omega
        have y2 : (j : Int) < (m : Int) := by omega
        have zb := (cell_lt s0).1
        obtain ⟨ws, hws⟩ : ∃ ws : World, ws = wr.alloc (.cells #[.int .i64 kd, .slice X nX cX, .slice X2 n2 c2, .int .i64 i3, .int .i64 i4, .int .i64 i5, .slice X6 n6 c6, .int .i64 i7, .int .i64 i8] 102) := ⟨_, rfl⟩
        have hbs : Below wr.heap.size wr ws := by rw [hws]; exact below_new _ _
        have KS : Hid (Blk ws wr.heap.size 102 #[.int .i64 kd, .slice X nX cX, .slice X2 n2 c2, .int .i64 i3, .int .i64 i4, .int .i64 i5, .slice X6 n6 c6, .int .i64 i7, .int .i64 i8]) := by rw [hws]; exact Blk.new _ _ _
        have HTs := Lib.hid (hT.out.keep hbs)
        have HXs := Lib.hid (hxs.keep hbs)
        have k0 := HTs.out.tb.cell 0
        simp at k0
        obtain ⟨q, hq⟩ : ∃ q, Hid (known.any (fun z => z.isEmpty) = q) := ⟨_, rfl⟩
        have hgo2 : Hid (ofL vars ((kd, xs) :: rs.drop (j + 1)) known nums nx out = R) := by have := hgo.out; rw [drop_cons_of hrk.out] at this; exact this
        clear hgo hrk hxs hbs hT
        go_wp2_with fail
        rw [← hws]
        clear hws s0 s1 s2 s3 s4 s5 s6 s7 s8 zb
        refine (done_any gx K nk ck known ws k0 HTs.out.ko.p.grid q hq).mono ?_
        rintro e w5 ⟨rfl, hb5⟩
        have HT5 := Lib.hid (HTs.out.keep hb5)
        have HX5 := Lib.hid (HXs.out.keep hb5)
        have KS5 := Lib.hid (KS.out.keep hb5)
        have g0 := KS5.out.cell 0
        have g1 := KS5.out.cell 1
        simp at g0 g1
        have gl := KS5.out.lt
        clear hb5 HTs HXs KS k0
        cases q
        · have hany : ¬ known.any (fun z => z.isEmpty) = true := by rw [hq.out]; simp
          rcases hkk with hkd1 | hkd2
          · (try simp only at hkd1)
            subst hkd1
            obtain ⟨kn', nu', nx', ou', hst⟩ : ∃ a b c d, Hid (stpF vars known nums nx out xs = (a, b, c, d)) := ⟨_, _, _, _, rfl⟩
            have hgo3 : Hid ((if 2000 < ou'.length then none else ofL vars (rs.drop (j + 1)) kn' nu' nx' ou') = R) := by
              have := hgo2.out
              rw [ofL, if_neg hany, if_neg (by simp), hst.out] at this
              exact this
            have HOK := Lib.hid (stpF_ok v0 hI.out.1 hI.out.2.1 (by omega) hxl hst.out)
            have hnx : nx ≤ 1000000 := by have := hI.out; omega
            have hno : no ≤ 1000000 := by have := hI.out; omega
            clear hgo2
            go_wp2_with fail
            refine (step_any wa w5 gx K nk ck N' cn' O no co known nums nx out HT5.out X nX cX xs HX5.out vars v0 v9 hxl hI.out.1 hI.out.2.1 hnx (by omega) hno kn' nu' nx' ou' hst).mono ?_
            rintro e w6 ⟨rfl, K6, nk6, ck6, N6, cn6, O6, no6, co6, hT6⟩
            have HT6 := Lib.hid hT6
            have k3 := HT6.out.tb.cell 3
            simp at k3
            have kl := HT6.out.tb.lt
            have hol6 := HT6.out.oo.len
            have hkl6 := HT6.out.ko.p.len
            clear hT6 HT5 HX5 KS5 g0 g1 gl
            by_cases hm2 : 2000 < no6
            · have dm : decide ((2000 : Int) < (no6 : Int)) = true := by simp; omega
              obtain rfl : none = R := by have := hgo3.out; rw [if_pos (by omega)] at this; exact this
              have kr := Lib.hid (KRA.out.keep HT6.out.bl)
              obtain ⟨q0, q9⟩ := kr.out.put2 (.int .i64 2) (.int .i64 (-1))
              have Q0 := Lib.hid q0
              have Q9 := Lib.hid q9
              have t0 := kr.out.cell 0
              have t1 := kr.out.cell 1
              have tf0 := kr.out.frozen 0
              have tf1 := kr.out.frozen 1
              simp at t0 t1
              have l3 := kr.out.lt
              have BW := Lib.hid (below_next HBA.out HT6.out.bl)
              have BF := Lib.hid (below_put2 BW.out (g := w.heap.size + 1) (by omega) (.int .i64 2) (.int .i64 (-1)))
              clear q0 q9 hgo3
              go_wp2_with fail
              exact bodyPost_ret (v := .tuple #[.slice none 0 0, .agg #[.int .i64 2, .int .i64 (-1)]]) (by simp [results, Try.results40, go_sem, Q0.out, Q9.out, l3]) rfl ⟨rfl, BF.out⟩
            · have dm : decide ((2000 : Int) < (no6 : Int)) = false := by simp; omega
              have hgo4 : Hid (ofL vars (rs.drop (j + 1)) kn' nu' nx' ou' = R) := by have := hgo3.out; rw [if_neg (by omega)] at this; exact this
              clear hgo3
              go_wp2_with fail
              go_roundw
              case rel => exact ⟨j + 1, nk6, ck6, cn6, no6, co6, K6, N6, O6, kn', nu', nx', ou', by omega, by go_num, by have := HOK.out.2.2.2; omega, HT6, ⟨HOK.out.1, HOK.out.2.1, by have := HOK.out.2.2.1; have := hI.out; omega, by omega⟩, hgo4⟩
              case measure => simp [intOf] <;> omega
          · (try simp only at hkd2)
            subst hkd2
            have hgo3 : Hid (ofL vars (rs.drop (j + 1)) known nums nx out = R) := by
              have := hgo2.out
              rw [ofL, if_neg hany, if_pos (by simp)] at this
              exact this
            clear hgo2
            go_wp2_with fail
            go_roundw
            case rel => exact ⟨j + 1, nk, ck, cn', no, co, K, N', O, known, nums, nx, out, by omega, by go_num, by omega, HT5, hI, hgo3⟩
            case measure => simp [intOf] <;> omega
        · obtain rfl : some out = R := by have := hgo2.out; rw [ofL_done hq.out] at this; exact this
          clear hgo2
          have kr := KRA.out.keep HT5.out.bl
          have e0 := kr.cell 0
          have e1 := kr.cell 1
          have f0 := kr.frozen 0
          have f1 := kr.frozen 1
          simp at e0 e1
          have lr := kr.lt
          have kx3 := HT5.out.tb.cell 3
          simp at kx3
          have kxl := HT5.out.tb.lt
          have BW := Lib.hid (below_next HBA.out HT5.out.bl)
          have OT := Lib.hid HT5.out.oo.trips
          have SI : Hid ((w5.setCell ⟨w.heap.size + 1, 0, none⟩ (.int .i64 0)).setCell ⟨w.heap.size + 1, 1, none⟩ (.int .i64 0) = w5) := by rw [setCell_id kr rfl, setCell_id kr rfl]; rfl
          clear kr
          go_wp2_with fail
          exact bodyPost_ret (v := .tuple #[.slice O no co, .agg #[.int .i64 0, .int .i64 0]]) (by rw [SI.out]; simp [results, Try.results40, go_sem, e0, e1]) rfl (by rw [SI.out]; exact ⟨O, no, co, rfl, OT.out, BW.out⟩)
      · obtain rfl : some out = R := by have := hgo.out; rw [List.drop_of_length_le (by rw [hlen.out]; omega), ofL] at this; exact this
        clear hgo
        have kr := KRA.out.keep hT.out.bl
        have e0 := kr.cell 0
        have e1 := kr.cell 1
        have f0 := kr.frozen 0
        have f1 := kr.frozen 1
        simp at e0 e1
        have lr := kr.lt
        have kx3 := hT.out.tb.cell 3
        simp at kx3
        have kxl := hT.out.tb.lt
        have BW := Lib.hid (below_next HBA.out hT.out.bl)
        have OT := Lib.hid hT.out.oo.trips
        have SI : Hid ((wr.setCell ⟨w.heap.size + 1, 0, none⟩ (.int .i64 0)).setCell ⟨w.heap.size + 1, 1, none⟩ (.int .i64 0) = wr) := by rw [setCell_id kr rfl, setCell_id kr rfl]; rfl
        clear kr
        go_wp2_with fail
        exact bodyPost_ret (v := .tuple #[.slice O no co, .agg #[.int .i64 0, .int .i64 0]]) (by rw [SI.out]; simp [results, Try.results40, go_sem, e0, e1]) rfl (by rw [SI.out]; exact ⟨O, no, co, rfl, OT.out, BW.out⟩)
end Go.Proofs.Ytabjbpkojbdgaaa

/- Contract of the reference's Unfolded. (Printed by wip/tools/unf.py.) -/
namespace Go.Proofs.Ytabjbpkojbdgaaa
open Go.RowKit
set_option linter.unusedSimpArgs false

def RetUn (R : Option (List R3)) (w : World) (e : Ending) (w' : World) : Prop :=
  match R with
  | some l => ∃ O no co, e = .returned (.tuple #[.slice O no co, .bool true]) ∧ Trips w' O no co l ∧ Below w.heap.size w w'
  | none => e = .returned (.tuple #[.slice none 0 0, .bool false]) ∧ Below w.heap.size w w'
theorem natsF_snocU (k : Nat) : natsF (k + 1) = natsF k ++ [(k : Int)] := by unfold natsF; rw [List.range_succ, List.map_append]; rfl
theorem resF_litsAny {vars v : Int} {a b : List Int} (ha : Lits vars a) (hb : Lits vars b) : Lits vars (resF a b v).1 := by
  by_cases h : (resF a b v).2 = 0
  · exact resF_lits ha hb (Prod.ext rfl h)
  · rw [resF_code0 h]; exact ⟨by simp, List.Pairwise.nil⟩
theorem of_same (x : Int) (w : World) (h1 : -9223372036854775807 ≤ x) (h2 : x ≤ 9223372036854775807) : Calls Try.prog 67 #[.int .i64 x] w (fun e w' => e = .returned (.int .i64 x.natAbs) ∧ w' = w) := by
  by_cases h : x < 0
  · go_enter Try.func67, Try.ntmps67
    go_wp2_with fail
    go_ret
    exact ⟨congrArg Ending.returned (by show Value.int _ _ = Value.int _ _; congr 1; omega), rfl⟩
  · go_enter Try.func67, Try.ntmps67
    go_wp2_with fail
    go_ret
    exact ⟨congrArg Ending.returned (by show Value.int _ _ = Value.int _ _; congr 1; omega), rfl⟩

set_option maxHeartbeats 16000000 in
set_option maxRecDepth 100000 in
theorem unfolded_ref (A B : Option Addr) (n c m d : Nat) (xss : List (List Int)) (rs : List (Int × List Int)) (vars : Int) (w : World) (h : Grid w A n c xss) (h' : Steps w B m d rs) (hr : Hid (proofR vars xss rs = (0, 0))) (R : Option (List R3)) (hR : Hid (unF vars xss rs = R)) :
    Calls Try.prog 41 #[.agg #[.int .i64 vars, .slice A n c], .slice B m d] w (RetUn R w) := by
  obtain ⟨_, hst0, _⟩ := proofR_parts hr.out
  obtain ⟨_, hck, hm3, hrs⟩ := stepsR_ok hst0
  obtain ⟨_, v0, v1, hn400, hrows⟩ := checkC_ok hck
  have hbd := h.bd
  have hbd' := h'.bd
  have hlen := Lib.hid h'.len
  have hlx := Lib.hid h.len
  have HRSL : Hid (∀ r ∈ rs, (r.1 = 1 ∨ r.1 = 2) ∧ Lits vars r.2) := hrs
  have HXL : Hid (∀ x ∈ xss, Lits vars x) := fun x hx => (hrows x hx).2
  have hm3' : m ≤ 3000 := by have := hlen.out; omega
  have hn4 : n ≤ 400 := by have := hlx.out; omega
  obtain ⟨ir, hir, hr0, hr1, hr2⟩ := info_parts row_info
  obtain ⟨i0, hi0, hz0, hz1, hz2⟩ := info_parts int_info
  obtain ⟨ires, hires, hs0, hs1, hs2⟩ := info_parts res_info
  obtain ⟨w1, hw1⟩ : ∃ w1 : World, w1 = w.alloc (.cells #[.int .i64 vars, .slice A n c] 24) := ⟨_, rfl⟩
  have HB1 : Hid (Below w.heap.size w w1) := by rw [hw1]; exact below_new _ _
  have KC1 : Hid (Blk w1 w.heap.size 24 #[.int .i64 vars, .slice A n c]) := by rw [hw1]; exact Blk.new _ _ _
  have G1 := Lib.hid (h.keep HB1.out)
  have V1 := Lib.hid (h'.keep HB1.out)
  have HW1 := Lib.hid hw1
  obtain ⟨vs0, hvs0, hrp0⟩ := G1.out.rowsP 3 (Nat.le_refl _)
  have HVS0 := Lib.hid hvs0
  have HRP0 := Lib.hid hrp0
  obtain ⟨wb, hwb⟩ : ∃ wb : World, wb = w1.alloc (.cells #[] 25) := ⟨_, rfl⟩
  have HWB : Hid (wb = (w.alloc (.cells #[.int .i64 vars, .slice A n c] 24)).alloc (.cells #[] 25)) := by rw [hwb, hw1]; rfl
  have HBB : Hid (Below w1.heap.size w1 wb) := by rw [hwb]; exact below_new _ _
  have OE : Hid (Own 25 wb w1.heap.size (some ⟨w1.heap.size, 0, none⟩) 0 0 []) := by rw [hwb]; exact own_empty _ _ _ rfl (Nat.le_refl _)
  have hw1s : w1.heap.size = w.heap.size + 1 := by rw [hw1]; simp
  have hsb : w1.heap.size ≤ wb.heap.size := HBB.out.size
  clear h h' hst0 hck hrs hrows hr hn400 hm3 hw1 hwb hvs0 hrp0
  go_enter Try.func41, Try.ntmps41
  go_wp2_with (first
    | (at_builtin
       refine wpList_append_sl _ rfl (.tmp 20) (.tmp 22) _ rfl w1.heap.size 25 ir _ 24 Try.underlying22 hir hr0 hr1 hr2 rfl (some ⟨w1.heap.size, 0, none⟩) 0 0 _ (by first | rfl | (rw [hw1s]; rfl)) (by rw [← HWB.out]; exact OE.out) A n c vs0 rfl (by rw [← HWB.out]; exact HVS0.out.keep HBB.out) HRP0.out.one (by simp only [maxLen]; omega) (by omega) (by rw [← HWB.out]; exact hsb) ?_
       intro K1 ck1 w2 hO1 hg1 hat1
       rw [← HWB.out] at hg1
       have OK1 : Hid (OwnP 25 3 w2 w1.heap.size w1.heap.size K1 n ck1 xss) := ⟨vs0, by simpa using hO1, (HRP0.out.keep HBB.out).kept hg1 (own_rows OE.out (Nat.le_refl _)) row_ne⟩
       have HB2 : Hid (Below w1.heap.size w1 w2) := HBB.out.grown hg1 HBB.out.size (fun k hk => (own_rows OE.out (Nat.le_refl _) k hk).1)
       clear hO1 hg1 hat1))
  have HU0 : Hid (UnG w1 w2 K1 n ck1 none 0 0 none 0 0 xss (natsF 0) []) := ⟨HB2.out, OwnF.of OK1.out, Own.nil _ _ _, OwnR.nil _ _⟩
  clear OE HWB HBB OK1 HB2 HVS0 HRP0 hsb
  go_loopw [8, 9] (fun s8 s9 wr => ∃ (k : Nat) (N : Option Addr) (cn : Nat), k ≤ n ∧ s8 = .slice N k cn ∧ s9 = .int .i64 k ∧ Hid ((xss.take k).any (fun z => z.isEmpty) = false) ∧ Hid (UnG w1 wr K1 n ck1 N k cn none 0 0 xss (natsF k) [])) (fun _ i _ => n - (intOf i).toNat)
  case atStart => exact ⟨0, none, 0, Nat.zero_le _, rfl, rfl, by simp [Hid], HU0⟩
  case round =>
    clear HU0
    obtain ⟨k, N, cn, hk, rfl, rfl, hne, hT⟩ := hrel
    have c1 := (KC1.out.keep hT.out.bl).cell 1
    simp at c1
    have zc := (cell_lt c1).1
    have BW := Lib.hid (below_next HB1.out hT.out.bl)
    have hwz := hT.out.bl.size
    by_cases hkn : k < n
    · obtain ⟨b, off, A', n', c', xs, hAe, hb, hcell, hI, hxk⟩ := (G1.out.keep hT.out.bl).round hkn
      have hxl := hI.len
      have y1 : (0 : Int) ≤ (k : Int) := by omega
      have y2 : (k : Int) < (n : Int) := by omega
      have zb := (cell_lt hcell).1
      have hAE : Hid (A = some ⟨b, off, none⟩) := hAe
      subst hAe
      clear hI hb
      by_cases h0 : n' = 0
      · subst h0
        have hany : xss.any (fun z => z.isEmpty) = true := List.any_eq_true.2 ⟨xs, List.mem_of_getElem? hxk.out, List.isEmpty_iff_length_eq_zero.2 hxl⟩
        obtain rfl : some [] = R := by have := hR.out; rw [unF, if_pos hany] at this; exact this
        clear hxk
        go_wp2_with fail
        exact bodyPost_ret (v := .tuple #[.slice none 0 0, .bool true]) (by simp [results, Try.results41, go_sem]) rfl ⟨none, 0, 0, rfl, (OwnR.nil _ 0).trips, BW.out⟩
      · have d0 : ((n' : Int) == 0) = false := by rw [beq_eq_false_iff_ne]; omega
        have hne2 : Hid ((xss.take (k + 1)).any (fun z => z.isEmpty) = false) := by
          have h1 : xs.isEmpty = false := by rw [Bool.eq_false_iff]; intro e; rw [List.isEmpty_iff_length_eq_zero] at e; omega
          show _ = _
          rw [take_snoc_of hxk.out, List.any_append, hne.out]
          simp [h1]
        have hS1 := sl_one wr 3 (.int .i64 (k : Int)) rfl
        have HT1 := Lib.hid (hT.out.keep (below_new wr (.cells #[.int .i64 (k : Int)] 3)))
        have hz9 : w1.heap.size ≤ (wr.alloc (.cells #[.int .i64 (k : Int)] 3)).heap.size := by simp; omega
        clear hxk hne
        go_wp2_with (first
          | (at_builtin
             refine wpList_append_sl _ rfl (.tmp 38) (.tmp 40) _ rfl w1.heap.size 3 i0 _ 8 Try.underlying25 hi0 hz0 hz1 hz2 rfl N k cn _ rfl HT1.out.no_ (some ⟨wr.heap.size, 0, none⟩) 1 1 _ rfl hS1 (by simp [Value.oneCell']) (by simp only [maxLen]; omega) (by omega) hz9 ?_
             intro N2 cn2 w6 hO2 hG2 hA2
             have HT6 : Hid (UnG w1 w6 K1 n ck1 N2 (k + 1) cn2 none 0 0 xss (natsF (k + 1)) []) := by rw [natsF_snocU]; exact HT1.out.growN hO2 hG2 hA2
             clear hO2 hG2 hA2))
        go_roundw
        case rel => exact ⟨k + 1, N2, cn2, by omega, rfl, by go_num, hne2, HT6⟩
        case measure => simp [intOf] <;> omega
    obtain rfl : k = n := by omega
    have hR0 : Hid (unL vars (rs.drop 0) xss (natsF k) [] = R) := by
      have := hR.out
      rw [List.take_of_length_le (by rw [hlx.out]; exact Nat.le_refl _)] at hne
      rw [unF, if_neg (by rw [hne.out]; simp), hlx.out] at this
      exact this
    have hN0 : Hid (∀ q ∈ natsF k, 0 ≤ q ∧ q < (k : Int)) := fun q hq => by
      unfold natsF at hq
      obtain ⟨i, hi, rfl⟩ := List.mem_map.1 hq
      have := List.mem_range.1 hi
      omega
    clear hne hR
    go_wp2_with fail
    clear c1 zc
    go_loopw [6, 7, 8, 10] (fun s6 s7 s8 s10 wr => ∃ (j nk ck nn cn no co : Nat) (K N O : Option Addr) (all : List (List Int)) (known : List Int) (out : List R3), j ≤ m ∧ s6 = .slice O no co ∧ s7 = .slice K nk ck ∧ s8 = .slice N nn cn ∧ s10 = .int .i64 j ∧ nn ≤ k + j ∧ no ≤ 2000 ∧ nk ≤ k + no ∧ k + no ≤ nk ∧ Hid (UnG w1 wr K nk ck N nn cn O no co all known out) ∧ Hid ((∀ x ∈ all, Lits vars x) ∧ (∀ q ∈ known, 0 ≤ q ∧ q < (nk : Int))) ∧ Hid (unL vars (rs.drop j) all known out = R)) (fun _ _ _ i _ => m - (intOf i).toNat)
    case atStart => exact ⟨0, k, ck1, k, cn, 0, 0, K1, N, none, xss, natsF k, [], Nat.zero_le _, rfl, rfl, rfl, rfl, by omega, by omega, by omega, by omega, hT, ⟨HXL.out, hN0.out⟩, hR0⟩
    case round =>
      clear hR0 hN0 hT HXL
      obtain ⟨j, nk, ck, nn, cn', no, co, K, N', O, all, known, out, hj, rfl, rfl, rfl, rfl, hnn, hno, hnk, hnk', hT, hI, hgo⟩ := hrel
      have BW2 := Lib.hid (below_next HB1.out hT.out.bl)
      by_cases hjm : j < m
      · obtain ⟨b, off, kd, X, nX, cX, xs, X2, n2, c2, i3, i4, i5, X6, n6, c6, i7, i8, hBe, hb, s0, s1, s2, s3, s4, s5, s6, s7, s8, hkd, hxs, hrk⟩ := (V1.out.keep hT.out.bl).round hjm
        subst hBe
        obtain ⟨hkk, hxl⟩ := HRSL.out (kd, xs) (List.mem_of_getElem? hrk.out)
        (try simp only at hkk hxl)
        have HXL2 := Lib.hid hxl
        have y1 : (0 : Int) ≤ (j : Int) := by omega
        have y2 : (j : Int) < (m : Int) := by omega
        have zb := (cell_lt s0).1
        have hgo2 : Hid (unL vars ((kd, xs) :: rs.drop (j + 1)) all known out = R) := by have := hgo.out; rw [drop_cons_of hrk.out] at this; exact this
        have HXI := Lib.hid hxs
        have hkl : Hid (all.length = nk) := hT.out.ko.p.len
        have hnl : Hid (known.length = nn) := by have := hT.out.no_.len; rw [List.length_map] at this; exact this
        clear hgo hrk hxs s2 s3 s4 s5 s6 s7 s8
        rcases hkk with hkd1 | hkd2
        rotate_left
        · subst hkd2
          have hgo3 : Hid (unL vars (rs.drop (j + 1)) all known out = R) := by
            have := hgo2.out
            rw [unL, if_pos (by simp)] at this
            exact this
          clear hgo2
          go_wp2_with fail
          go_roundw
          case rel => exact ⟨j + 1, nk, ck, nn, cn', no, co, K, N', O, all, known, out, by omega, rfl, rfl, rfl, by go_num, by omega, by omega, hnk, hnk', hT, hI, hgo3⟩
          case measure => simp [intOf] <;> omega
        subst hkd1
        have hML : Hid (∀ x ∈ known.map (fun (i : Int) => all.getD i.toNat []), Lits vars x) := fun x hx => by
          obtain ⟨i, hi, rfl⟩ := List.mem_map.1 hx
          have h1 := hI.out.2 i hi
          have h2 : i.toNat < all.length := by rw [hkl.out]; omega
          rw [List.getD_eq_getElem?_getD, List.getElem?_eq_getElem h2]
          exact hI.out.1 _ (List.getElem_mem h2)
        obtain ⟨t, y, a, hta⟩ : ∃ t y a, Hid (uaF vars all known xs = (t, y, a)) := ⟨_, _, _, rfl⟩
        have HHT : Hid (Lits vars t ∧ y.length = t.length ∧ ((∀ k ∈ y, -1 ≤ k ∧ k < (nn : Int))) ∧ (0 ≤ a → a < (nn : Int)) ∧ (a = -1 ∨ 0 ≤ a)) := by
          have ok := runF_ok v0 hML.out (vars.toNat + 1) (negF xs) ((negF xs).map fun _ => -1) hxl.neg (by omega)
          have h9 := hta.out
          unfold uaF askF at h9
          rw [h9] at ok
          have hl : ((known.map (fun (i : Int) => all.getD i.toNat [])).length : Int) = nn := by rw [List.length_map, hnl.out]
          refine ⟨ok.lits, ok.same (by simp), fun z hz => ?_, fun h => ?_, ok.at_⟩
          · have := ok.why (fun k hk => by rw [List.mem_map] at hk; obtain ⟨_, _, rfl⟩ := hk; omega) z hz
            rw [hl] at this; exact this
          · have := ok.bad h
            rw [hl] at this; exact this
        have HXB : Hid (∀ z ∈ xs, -1000000 ≤ z ∧ z ≤ 1000000) := fun z hz => by have := hxl.1 z hz; omega
        have hnX : nX ≤ 1000000 := by have := hxl.len_le v0; rw [HXI.out.len] at this; omega
        obtain ⟨wo, hwo⟩ : ∃ wo : World, wo = wr := ⟨_, rfl⟩
        subst hwo
        have hL0 : Hid (OwnP 25 3 wo wo.heap.size wo.heap.size none 0 0 ((known.take 0).map (fun (i : Int) => all.getD i.toNat []))) := OwnP.nil _ _ _ _ _
        have hwoz : Hid (Below wo.heap.size wo wo) := Below.refl _ _
        have hcK := hT.out.ko.p.grid.bd
        have hcN := hT.out.no_.sl.le
        have hcN2 := hT.out.no_.sl.cap
        have hcN3 : cn' ≤ 9223372036854775807 := by unfold maxLen at hcN2; exact hcN2
        clear hxl
        go_wp2_with fail
        go_loopw [11, 12] (fun s11 s12 wz => ∃ (i cl : Nat) (L : Option Addr), i ≤ nn ∧ s11 = .slice L i cl ∧ s12 = .int .i64 i ∧ Hid (OwnP 25 3 wz wo.heap.size wo.heap.size L i cl ((known.take i).map (fun (i : Int) => all.getD i.toNat []))) ∧ Hid (Below wo.heap.size wo wz)) (fun _ i _ => nn - (intOf i).toNat)
        case atStart => exact ⟨0, 0, none, Nat.zero_le _, rfl, rfl, hL0, hwoz⟩
        case round =>
          clear hL0 hwoz
          obtain ⟨i, cl, L, hi, rfl, rfl, hL, hBz⟩ := hrel
          have HTz := Lib.hid (hT.out.keep hBz.out)
          by_cases hin : i < nn
          · obtain ⟨gN, u0, hNe, _, _, hcellN, _, hu0⟩ := hT.out.no_.at_ hin
            obtain ⟨z, hu1, rfl⟩ : ∃ z : Int, known[i]? = some z ∧ u0 = .int .i64 z := by
              have := hu0.out
              rw [List.getElem?_map, Option.map_eq_some_iff] at this
              obtain ⟨z, h1, h2⟩ := this
              exact ⟨z, h1, h2.symm⟩
            have hzr := hI.out.2 z (List.mem_of_getElem? hu1)
            obtain ⟨zN, rfl⟩ : ∃ zN : Nat, z = (zN : Int) := ⟨z.toNat, by omega⟩
            have hzN : zN < nk := by omega
            obtain ⟨gK, Xr, nr, cr, xr, hKe, _, _, hcellK, _, hIr, _, hxr⟩ := hT.out.ko.p.round hzN
            have hcn1 := keepBox hBz.out hcellN
            have hck1 := keepBox hBz.out hcellK
            have HIR := Lib.hid (hIr.keep hBz.out)
            have HAR : Hid (Away 3 wr wo.heap.size Xr nr) := (Away.old hIr (Nat.le_refl _)).keep hBz.out
            have htk : Hid ((known.take (i + 1)).map (fun (i : Int) => all.getD i.toNat []) = (known.take i).map (fun (i : Int) => all.getD i.toNat []) ++ [xr]) := by
              show _ = _
              rw [take_snoc_of hu1, List.map_append, List.map_cons, List.map_nil, Int.toNat_natCast, List.getD_eq_getElem?_getD, hxr.out]; rfl
            have u1 : (0 : Int) ≤ (i : Int) := by omega
            have u2 : (i : Int) < (nn : Int) := by omega
            have u3 : (0 : Int) ≤ (zN : Int) := by omega
            have u4 : (zN : Int) < (nk : Int) := by omega
            have z1 := (cell_lt hcn1).1
            have z2 := (cell_lt hck1).1
            obtain ⟨vs, hv1, hv2⟩ := hL.out
            have HV1 := Lib.hid (hv1.keep (below_new wr (.cells #[.slice Xr nr cr] 25)))
            have HV2 := Lib.hid (hv2.keep (below_new wr (.cells #[.slice Xr nr cr] 25)))
            have HSS := Lib.hid (sl_one wr 25 (.slice Xr nr cr) rfl)
            have hz9 : wo.heap.size ≤ (wr.alloc (.cells #[.slice Xr nr cr] 25)).heap.size := by have := hBz.out.size; simp; omega
            have HNe : Hid (N' = some ⟨gN, 0, none⟩) := hNe
            have HKe : Hid (K = some ⟨gK, 0, none⟩) := hKe
            subst hNe hKe
            clear hu0 hu1 hxr hIr hv1 hv2
            go_wp2_with (first
              | (at_builtin
                 refine wpList_append_sl _ rfl (.tmp 60) (.tmp 68) _ rfl wo.heap.size 25 ir _ 24 Try.underlying22 hir hr0 hr1 hr2 rfl L i cl _ rfl HV1.out (some ⟨wr.heap.size, 0, none⟩) 1 1 _ rfl HSS.out (by simp [Value.oneCell']) (by simp only [maxLen]; omega) (by omega) hz9 ?_
                 intro L1 cL1 w6 hL1 hg1 hat1
                 have HP6 : Hid (OwnP 25 3 w6 wo.heap.size wo.heap.size L1 (i + 1) cL1 ((known.take (i + 1)).map (fun (i : Int) => all.getD i.toNat []))) := by
                   rw [htk.out]
                   exact OwnP.push HV1.out HV2.out (Nat.le_refl _) row_ne (HIR.out.keep (below_new _ _)) (HAR.out.keep (below_new _ _)) hL1 hg1
                 have HB6 := Lib.hid (below_grown (below_alloc hBz.out (.cells #[.slice Xr nr cr] 25)) HV1.out (Nat.le_refl _) hg1)
                 clear hL1 hg1 hat1))
            go_roundw
            case rel => exact ⟨i + 1, cL1, L1, by omega, rfl, by go_num, HP6, HB6⟩
            case measure => simp [intOf] <;> omega
          · obtain rfl : i = nn := by omega
            have hLL : Hid (OwnP 25 3 wr wo.heap.size wo.heap.size L i cl (known.map (fun (i : Int) => all.getD i.toNat []))) := by have := hL.out; rw [List.take_of_length_le (by rw [hnl.out]; exact Nat.le_refl _)] at this; exact this
            have s0z := keepBox hBz.out s0
            have s1z := keepBox hBz.out s1
            have zbz := (cell_lt s1z).1
            have HXz := Lib.hid (HXI.out.keep hBz.out)
            clear hL s0 s1 HXI zb hT
            go_wp2_with fail
            refine (negatives_any X nX cX xs _ HXz.out HXB.out hnX).mono ?_
            rintro e w3 ⟨N3, nn3, cn3, rfl, hN3, hb3⟩
            have v6 : vars ≤ 1000000 := by omega
            have HN3 := Lib.hid (hN3.ints (negF_i64 v6 HXL2.out))
            have HT3 := Lib.hid (HTz.out.keep hb3)
            have HL3 := Lib.hid (hLL.out.keep hb3)
            clear hN3 hb3 HTz hLL
            go_wp2_with fail
            refine (asked_ref 0 _ _ _ _ _ _ (known.map (fun (i : Int) => all.getD i.toNat [])) (negF xs) vars w3 HL3.out.grid HN3.out v0 v6 hML.out HXL2.out.neg (Nat.zero_le _) t y a hta).mono ?_
            rintro e w4 ⟨L4, nl4, cl4, Y4, ny4, cy4, rfl, hI4, hJ4, hAL, hAY, _, _, hb4⟩
            obtain ⟨w5, hw5⟩ : ∃ w5 : World, w5 = w4.alloc (.cells #[.slice L4 nl4 cl4, .slice Y4 ny4 cy4, .int .i64 a] 35) := ⟨_, rfl⟩
            have hb5 : Below w4.heap.size w4 w5 := by rw [hw5]; exact below_new _ _
            have KT5 : Hid (Blk w5 w4.heap.size 35 #[.slice L4 nl4 cl4, .slice Y4 ny4 cy4, .int .i64 a]) := by rw [hw5]; exact Blk.new _ _ _
            have HT5 := Lib.hid ((HT3.out.keep hb4).keep hb5)
            have IL5 := Lib.hid (hI4.keep hb5)
            have IY5 := Lib.hid (hJ4.keep hb5)
            have AL5 := Lib.hid (hAL.keep hb5)
            have AY5 := Lib.hid (hAY.keep hb5)
            obtain ⟨bt, hbt⟩ : ∃ q, q = w4.heap.size := ⟨_, rfl⟩
            have KT : Hid (Blk w5 bt 35 #[.slice L4 nl4 cl4, .slice Y4 ny4 cy4, .int .i64 a]) := by rw [hbt]; exact KT5.out
            have hbtw : w1.heap.size ≤ bt := by rw [hbt]; have h1 := HT3.out.bl.size; have h2 := hb4.size; omega
            have k0 := KT.out.cell 0
            have k2 := KT.out.cell 2
            simp at k0 k2
            have kl := KT.out.lt
            have BW5 := Lib.hid (below_next HB1.out HT5.out.bl)
            clear KT5 hb4 hb5 hI4 hJ4 hAL hAY HT3 HL3 HN3 HXz s0z s1z zbz
            by_cases ha : a < 0
            · have da : decide (a < 0) = true := decide_eq_true ha
              obtain rfl : some out = R := by have := hgo2.out; rw [unL, if_neg (by simp), hta.out, if_pos ha] at this; exact this
              clear hgo2
              go_wp2_with fail
              rw [← hw5, ← hbt]
              go_wp2_with fail
              exact bodyPost_ret (v := .tuple #[.slice O no co, .bool true]) (by simp [results, Try.results41, go_sem]) rfl ⟨O, no, co, rfl, HT5.out.oo.trips, BW5.out⟩
            · have da : decide (a < 0) = false := decide_eq_false ha
              obtain ⟨aN, rfl⟩ : ∃ aN : Nat, a = (aN : Int) := ⟨a.toNat, by omega⟩
              have haN : aN < i := by have := HHT.out.2.2.2.1 (by omega); omega
              obtain ⟨gN, u0, hNe, _, hgN2, hcellN, _, hu0⟩ := HT5.out.no_.at_ haN
              obtain ⟨num0, hu1, rfl⟩ : ∃ z : Int, known[aN]? = some z ∧ u0 = .int .i64 z := by
                have := hu0.out
                rw [List.getElem?_map, Option.map_eq_some_iff] at this
                obtain ⟨z, h1, h2⟩ := this
                exact ⟨z, h1, h2.symm⟩
              have hnum := hI.out.2 num0 (List.mem_of_getElem? hu1)
              obtain ⟨f1, f2, f3, hf⟩ : ∃ f1 f2 f3, Hid (usF vars all known out xs = (f1, f2, f3)) := ⟨_, _, _, rfl⟩
              have hst : Hid ((if 2000 < f3.length then none else if (f1.getD f2.toNat []).isEmpty = true then some f3 else unL vars (rs.drop (j + 1)) f1 (known ++ [f2]) f3) = R) := by
                have := hgo2.out
                rw [unL, if_neg (by simp), hta.out, if_neg (by simp only; omega), hf.out] at this
                exact this
              have hq0 : Hid (trR known t y t.length all num0 out = (f1, f2, f3)) := by
                have := hf.out
                rw [usF, hta.out] at this
                simp only [Int.toNat_natCast] at this
                rw [show known.getD aN 0 = num0 by rw [List.getD_eq_getElem?_getD, hu1]; rfl] at this
                exact this
              have k1 := KT.out.cell 0
              simp at k1
              have u1 : (0 : Int) ≤ (aN : Int) := by omega
              have u2 : (aN : Int) < (i : Int) := by omega
              have hnl4 : Hid (t.length = nl4) := IL5.out.len
              have hny4 : Hid (y.length = ny4) := IY5.out.len
              have htl : t.length ≤ 120 := by have := HHT.out.1.len_le v0; omega
              have hIb := IL5.out.bd
              have hYb := IY5.out.bd
              have hBN : Hid (∀ q, blockOf N' = some q → q < w5.heap.size) := fun q hq => by rw [hNe] at hq; simp [blockOf] at hq; omega
              have HNe : Hid (N' = some ⟨gN, 0, none⟩) := hNe
              subst hNe
              have hcL : (w4.alloc (.cells #[.slice L4 nl4 cl4, .slice Y4 ny4 cy4, .int .i64 aN] 35)).cell? ⟨gN, aN, none⟩ = some (.int .i64 num0) := by rw [← hw5]; exact hcellN
              have zcL := (cell_lt hcL).1
              clear hgo2 hu0 hu1 hf BW2
              go_wp2_with fail
              rw [← hw5, ← hbt]
              clear hw5 hbt hcL zcL
              go_loopw [6, 7, 14, 15] (fun s6 s7 s14 s15 wr => ∃ (k4 nk2 ck2 no2 co2 : Nat) (K2 O2 : Option Addr) (al2 : List (List Int)) (ou2 : List R3) (now : Int), k4 ≤ t.length ∧ no2 + k4 ≤ no + t.length ∧ nk2 ≤ k + no2 ∧ k + no2 ≤ nk2 ∧ nk ≤ nk2 ∧ s6 = .slice O2 no2 co2 ∧ s7 = .slice K2 nk2 ck2 ∧ s14 = .int .i64 now ∧ s15 = .int .i64 ((k4 : Int) - 1) ∧ Hid (UnG w1 wr K2 nk2 ck2 (some ⟨gN, 0, none⟩) i cn' O2 no2 co2 al2 known ou2) ∧ Hid (Blk wr bt 35 #[.slice L4 nl4 cl4, .slice Y4 ny4 cy4, .int .i64 aN]) ∧ Hid (Ints wr L4 nl4 cl4 t ∧ Ints wr Y4 ny4 cy4 y ∧ Apart 3 wr 0 L4 ∧ Apart 3 wr 0 Y4) ∧ Hid (w5.heap.size ≤ wr.heap.size) ∧ Hid ((∀ x ∈ al2, Lits vars x) ∧ 0 ≤ now ∧ now < nk2) ∧ Hid (trR known t y k4 al2 now ou2 = (f1, f2, f3))) (fun _ _ _ i _ => (intOf i + 1).toNat)
              case atStart => exact ⟨t.length, nk, ck, no, co, K, O, all, out, num0, Nat.le_refl _, Nat.le_refl _, hnk, hnk', Nat.le_refl _, rfl, rfl, rfl, by rw [hnl4.out], HT5.out, KT.out, ⟨IL5.out, IY5.out, AL5.out, AY5.out⟩, Nat.le_refl _, ⟨hI.out.1, hnum.1, hnum.2⟩, hq0⟩
              case round =>
                clear HT5 KT IL5 IY5 AL5 AY5 hq0 k0 k1 k2 kl hcellN
                obtain ⟨k4, nk2, ck2, no2, co2, K2, O2, al2, ou2, now, hk4, hno4, hnk2, hnk2', hnkk, rfl, rfl, rfl, rfl, hT4, hK4, hA4, hw5r, hI4, htr⟩ := hrel
                have hol := hT4.out.oo.len
                have hcK2 := hT4.out.ko.p.grid.bd
                have BW4 := Lib.hid (below_next HB1.out hT4.out.bl)
                have hz9 := hT4.out.bl.size
                by_cases hk0 : k4 = 0
                · subst hk0
                  obtain ⟨e1, e2, e3⟩ : al2 = f1 ∧ now = f2 ∧ ou2 = f3 := by have := htr.out; rw [trR] at this; simpa using this
                  have hst4 : Hid ((if 2000 < ou2.length then none else if (al2.getD now.toNat []).isEmpty = true then some ou2 else unL vars (rs.drop (j + 1)) al2 (known ++ [now]) ou2) = R) := by rw [e1, e2, e3]; exact hst.out
                  obtain ⟨nowN, hnow⟩ : ∃ q : Nat, now = (q : Int) := ⟨now.toNat, by have := hI4.out; omega⟩
                  subst hnow
                  have hnowl : nowN < nk2 := by have := hI4.out; omega
                  obtain ⟨gK2, X3, n3, c3, x3, hKe, _, _, hcell3, _, hI3, _, hx3⟩ := hT4.out.ko.p.round hnowl
                  have hx3l := hI3.len
                  have hrow3 : Hid (al2.getD nowN [] = x3) := by rw [List.getD_eq_getElem?_getD, hx3.out]; rfl
                  have w1_ : (0 : Int) ≤ (nowN : Int) := by omega
                  have w2_ : (nowN : Int) < (nk2 : Int) := by omega
                  have zc3 := (cell_lt hcell3).1
                  have HKe : Hid (K2 = some ⟨gK2, 0, none⟩) := hKe
                  subst hKe
                  clear hst htr hI3 hx3 hK4 hA4 e1 e2 e3
                  by_cases hm2 : 2000 < no2
                  · have dm : decide ((2000 : Int) < (no2 : Int)) = true := by simp; omega
                    obtain rfl : none = R := by have := hst4.out; rw [if_pos (by omega)] at this; exact this
                    clear hst4
                    go_wp2_with fail
                    exact bodyPost_ret (v := .tuple #[.slice none 0 0, .bool false]) (by simp [results, Try.results41, go_sem]) rfl ⟨rfl, BW4.out⟩
                  · have dm : decide ((2000 : Int) < (no2 : Int)) = false := by simp; omega
                    by_cases h3 : n3 = 0
                    · subst h3
                      obtain rfl : some ou2 = R := by
                        have := hst4.out
                        rw [if_neg (by omega), Int.toNat_natCast, hrow3.out, if_pos (List.isEmpty_iff_length_eq_zero.2 hx3l)] at this
                        exact this
                      clear hst4
                      go_wp2_with fail
                      exact bodyPost_ret (v := .tuple #[.slice O2 no2 co2, .bool true]) (by simp [results, Try.results41, go_sem]) rfl ⟨O2, no2, co2, rfl, hT4.out.oo.trips, BW4.out⟩
                    · have d3 : ((n3 : Int) == 0) = false := by rw [beq_eq_false_iff_ne]; omega
                      have hst5 : Hid (unL vars (rs.drop (j + 1)) al2 (known ++ [(nowN : Int)]) ou2 = R) := by
                        have := hst4.out
                        rw [if_neg (by omega), Int.toNat_natCast, hrow3.out, if_neg (by rw [List.isEmpty_iff_length_eq_zero]; omega)] at this
                        exact this
                      have hS1 := sl_one wr 3 (.int .i64 (nowN : Int)) rfl
                      have HT1 := Lib.hid (hT4.out.keep (below_new wr (.cells #[.int .i64 (nowN : Int)] 3)))
                      have hz10 : w1.heap.size ≤ (wr.alloc (.cells #[.int .i64 (nowN : Int)] 3)).heap.size := by simp; omega
                      have HI9 : Hid ((∀ x ∈ al2, Lits vars x) ∧ (∀ q ∈ known ++ [(nowN : Int)], 0 ≤ q ∧ q < (nk2 : Int))) := ⟨hI4.out.1, fun q hq => by
                        rcases List.mem_append.1 hq with hq | hq
                        · have := hI.out.2 q hq; omega
                        · simp at hq; subst hq; omega⟩
                      clear hst4
                      go_wp2_with (first
                        | (at_builtin
                           refine wpList_append_sl _ rfl (.tmp 179) (.tmp 181) _ rfl w1.heap.size 3 i0 _ 8 Try.underlying25 hi0 hz0 hz1 hz2 rfl (some ⟨gN, 0, none⟩) i cn' _ rfl HT1.out.no_ (some ⟨wr.heap.size, 0, none⟩) 1 1 _ rfl hS1 (by simp [Value.oneCell']) (by simp only [maxLen]; omega) (by omega) hz10 ?_
                           intro N2 cn2 w6 hO2 hG2 hA2
                           have HT6 := Lib.hid (HT1.out.growN hO2 hG2 hA2)
                           clear hO2 hG2 hA2))
                      go_roundw
                      case rel => exact ⟨j + 1, nk2, ck2, i + 1, cn2, no2, co2, some ⟨gK2, 0, none⟩, N2, O2, al2, known ++ [(nowN : Int)], ou2, by omega, rfl, rfl, rfl, by go_num, by omega, by omega, hnk2, hnk2', HT6, HI9, hst5⟩
                      case measure => simp [intOf] <;> omega
                · obtain ⟨j4, rfl⟩ : ∃ j, k4 = j + 1 := ⟨k4 - 1, by omega⟩
                  have ej : ((j4 + 1 : Nat) : Int) - 1 = (j4 : Int) := by omega
                  rw [ej]
                  have hyt := HHT.out.2.1
                  have hnl4' := hnl4.out
                  have hny4' := hny4.out
                  have hjt : j4 < nl4 := by omega
                  have hjy : j4 < ny4 := by omega
                  clear hyt hnl4' hny4'
                  have k0 := hK4.out.cell 0
                  have k1 := hK4.out.cell 1
                  simp at k0 k1
                  have zbt := hK4.out.lt
                  obtain ⟨bL, offL, l, hLe, hbL, hcL, _, _, hlk⟩ := hA4.out.1.round hjt
                  obtain ⟨bY, offY, yk, hYe, hbY, hcY, _, _, hyk⟩ := hA4.out.2.1.round hjy
                  have hlb := HHT.out.1.1 l (List.mem_of_getElem? hlk.out)
                  have hykb := HHT.out.2.2.1 yk (List.mem_of_getElem? hyk.out)
                  obtain ⟨nowN, hnow⟩ : ∃ q : Nat, now = (q : Int) := ⟨now.toNat, by have := hI4.out; omega⟩
                  subst hnow
                  have hnowl : nowN < nk2 := by have := hI4.out; omega
                  obtain ⟨gK2, X3, n3, c3, x3, hKe, _, _, hcell3, _, hI3, _, hx3⟩ := hT4.out.ko.p.round hnowl
                  have hrow3 : Hid (al2.getD nowN [] = x3) := by rw [List.getD_eq_getElem?_getD, hx3.out]; rfl
                  have hst4 : Hid ((if yk < 0 ∨ hasB x3 (-l) = false then trR known t y j4 al2 nowN ou2 else trR known t y j4 (al2 ++ [(oneR al2 (rsT l nowN (known.getD yk.toNat 0))).1]) al2.length (ou2 ++ [rsT l nowN (known.getD yk.toNat 0)])) = (f1, f2, f3)) := by
                    have := htr.out
                    rw [trR, show y.getD j4 0 = yk by rw [List.getD_eq_getElem?_getD, hyk.out]; rfl, show t.getD j4 0 = l by rw [List.getD_eq_getElem?_getD, hlk.out]; rfl, Int.toNat_natCast, hrow3.out] at this
                    exact this
                  have w1_ : (0 : Int) ≤ (nowN : Int) := by omega
                  have w2_ : (nowN : Int) < (nk2 : Int) := by omega
                  have w3_ : (0 : Int) ≤ (j4 : Int) := by omega
                  have w4_ : (j4 : Int) < (nl4 : Int) := by omega
                  have w5_ : (j4 : Int) < (ny4 : Int) := by omega
                  have zc3 := (cell_lt hcell3).1
                  have HI3 := Lib.hid hI3
                  have HX3 := Lib.hid hx3
                  have HKe : Hid (K2 = some ⟨gK2, 0, none⟩) := hKe
                  have HLe : Hid (L4 = some ⟨bL, offL, none⟩) := hLe
                  have HYe : Hid (Y4 = some ⟨bY, offY, none⟩) := hYe
                  subst hKe hLe hYe
                  clear htr hlk hyk hI3 hx3
                  by_cases hy0 : yk < 0
                  · have hst5 : Hid (trR known t y j4 al2 nowN ou2 = (f1, f2, f3)) := by have := hst4.out; rw [if_pos (.inl hy0)] at this; exact this
                    clear hst4
                    go_wp2_with fail
                    go_roundw
                    case rel => exact ⟨j4, nk2, ck2, no2, co2, some ⟨gK2, 0, none⟩, O2, al2, ou2, (nowN : Int), by omega, by omega, hnk2, hnk2', hnkk, rfl, rfl, rfl, by go_num, hT4, hK4, hA4, hw5r, hI4, hst5⟩
                    case measure => simp [intOf] <;> omega
                  have dy : decide (yk < 0) = false := decide_eq_false hy0
                  obtain ⟨qh, hqh⟩ : ∃ qh, Hid (hasB x3 (-l) = qh) := ⟨_, rfl⟩
                  go_wp2_with fail
                  refine (has_any _ _ _ x3 (-l) _ HI3.out qh hqh).mono ?_
                  rintro e w7 hq7
                  obtain ⟨rfl, hb7⟩ := hq7.v
                  have HT7 := Lib.hid (hT4.out.keep hb7)
                  have HK7 := Lib.hid (hK4.out.keep hb7)
                  have HA7 := Lib.hid (And.intro (hA4.out.1.keep hb7) (And.intro (hA4.out.2.1.keep hb7) (And.intro (hA4.out.2.2.1.keep hb7) (hA4.out.2.2.2.keep hb7))))
                  have HW7 := Lib.hid (Nat.le_trans hw5r.out hb7.size)
                  have BW7 := Lib.hid (below_next BW4.out hb7)
                  have hcY7 := keepBox hb7 hcY
                  clear hq7 hb7 hT4 hK4 hA4 hw5r HI3 k0 k1 zbt hcL hcY hcell3 zc3 BW4 hz9
                  cases qh
                  · have hst5 : Hid (trR known t y j4 al2 nowN ou2 = (f1, f2, f3)) := by have := hst4.out; rw [if_pos (.inr hqh.out)] at this; exact this
                    clear hst4
                    go_wp2_with fail
                    go_roundw
                    case rel => exact ⟨j4, nk2, ck2, no2, co2, some ⟨gK2, 0, none⟩, O2, al2, ou2, (nowN : Int), by omega, by omega, hnk2, hnk2', hnkk, rfl, rfl, rfl, by go_num, HT7, HK7, HA7, HW7, hI4, hst5⟩
                    case measure => simp [intOf] <;> omega
                  obtain ⟨yN, rfl⟩ : ∃ yN : Nat, yk = (yN : Int) := ⟨yk.toNat, by omega⟩
                  have hyN : yN < i := by omega
                  obtain ⟨_, u0, hNe, _, _, hcN, _, hu0⟩ := HT7.out.no_.at_ hyN
                  cases hNe
                  obtain ⟨mw, hu1, rfl⟩ : ∃ z : Int, known[yN]? = some z ∧ u0 = .int .i64 z := by
                    have := hu0.out
                    rw [List.getElem?_map, Option.map_eq_some_iff] at this
                    obtain ⟨z, hz1, hz2⟩ := this
                    exact ⟨z, hz1, hz2.symm⟩
                  have HMW : Hid (0 ≤ mw ∧ mw < (nk : Int)) := hI.out.2 mw (List.mem_of_getElem? hu1)
                  have hst5 : Hid (trR known t y j4 (al2 ++ [(oneR al2 (rsT l nowN mw)).1]) al2.length (ou2 ++ [rsT l nowN mw]) = (f1, f2, f3)) := by
                    have := hst4.out
                    rw [if_neg (by rw [hqh.out]; simp), Int.toNat_natCast, show known.getD yN 0 = mw by rw [List.getD_eq_getElem?_getD, hu1]; rfl] at this
                    exact this
                  have uy1 : (0 : Int) ≤ (yN : Int) := by omega
                  have uy2 : (yN : Int) < (i : Int) := by omega
                  obtain ⟨mN, hmN⟩ : ∃ q : Nat, mw = (q : Int) := ⟨mw.toNat, by have := HMW.out; omega⟩
                  subst hmN
                  have hmk : mN < nk2 := by have := HMW.out.2; omega
                  clear hst4 hu0 hu1 HMW
                  go_wp2_with fail
                  obtain ⟨wd8, hwd⟩ : ∃ z : World, z = w7.drew := ⟨_, rfl⟩
                  have hbd : Below w7.heap.size w7 wd8 := by rw [hwd]; exact below_drewN _ 1
                  have HT8 := Lib.hid (HT7.out.keep hbd)
                  have HK8 := Lib.hid (HK7.out.keep hbd)
                  have HA8 : Hid (Ints wd8 (some ⟨bL, offL, none⟩) nl4 cl4 t ∧ Ints wd8 (some ⟨bY, offY, none⟩) ny4 cy4 y ∧ Apart 3 wd8 0 (some ⟨bL, offL, none⟩) ∧ Apart 3 wd8 0 (some ⟨bY, offY, none⟩)) := ⟨HA7.out.1.keep hbd, HA7.out.2.1.keep hbd, HA7.out.2.2.1.keep hbd, HA7.out.2.2.2.keep hbd⟩
                  have HW8 := Lib.hid (Nat.le_trans HW7.out hbd.size)
                  have hS : wd8.cell? ⟨bt, 1, none⟩ = some (.slice (some ⟨bY, offY, none⟩) ny4 cy4) ∧ wd8.cell? ⟨bY, offY + j4, none⟩ = some (.int .i64 yN) ∧ wd8.cell? ⟨gN, yN, none⟩ = some (.int .i64 (mN : Int)) := ⟨by have := HK8.out.cell 1; simpa using this, keepBox hbd hcY7, keepBox hbd hcN⟩
                  have zbt8 := HK8.out.lt
                  have zcy8 := (cell_lt hS.2.1).1
                  have zcn8 := (cell_lt hS.2.2).1
                  clear hbd HT7 HK7 HA7 HW7 hcY7 hcN
                  refine wp_region_tail (fun w' => w'.cell? ⟨bt, 1, none⟩ = some (.slice (some ⟨bY, offY, none⟩) ny4 cy4) ∧ w'.cell? ⟨bY, offY + j4, none⟩ = some (.int .i64 yN) ∧ w'.cell? ⟨gN, yN, none⟩ = some (.int .i64 (mN : Int))) [13] (by kernel_rfl) ?_
                  change wpAnyT _ _ _ _ _ _ _ _ _ w7.drew
                  rw [← hwd]
                  clear hwd
                  refine take0 (i := 0) (oi := _) (v := ?_) rfl (by kernel_rfl) (by kernel_rfl) (by kernel_rfl) (fun _ _ _ h => h) rfl (Or.inl ⟨by rfl, ?_⟩) (fun _ => hS) ?_
                  rotate_left
                  · intro w0; go_simp; with_reducible rfl
                  (try simp only [Act.put, List.setIfInBounds_toArray, List.set_cons_zero, List.set_cons_succ])
                  refine take0 (i := 1) (oi := _) (v := ?_) rfl (by kernel_rfl) (by kernel_rfl) (by kernel_rfl) (fun _ _ _ h => h) rfl (Or.inl ⟨by rfl, ?_⟩) (fun _ => hS) ?_
                  rotate_left
                  · intro w0; go_simp; with_reducible rfl
                  (try simp only [Act.put, List.setIfInBounds_toArray, List.set_cons_zero, List.set_cons_succ])
                  refine takeS (i := 2) (oi := _) (v := ?_) rfl (by kernel_rfl) (by kernel_rfl) (by kernel_rfl) (fun _ _ _ h => h) rfl (by kernel_rfl) (by kernel_rfl) (Or.inl ⟨by rfl, ?_⟩) hS ?_
                  rotate_left
                  · intro w0 hSw; (try dsimp only at hSw); go_simp; with_reducible rfl
                  (try simp only [Act.put, List.setIfInBounds_toArray, List.set_cons_zero, List.set_cons_succ])
                  refine take0 (i := 3) (oi := _) (v := ?_) rfl (by kernel_rfl) (by kernel_rfl) (by kernel_rfl) (fun _ _ _ h => h) rfl (Or.inl ⟨by rfl, ?_⟩) (fun _ => hS) ?_
                  rotate_left
                  · intro w0; go_simp; with_reducible rfl
                  (try simp only [Act.put, List.setIfInBounds_toArray, List.set_cons_zero, List.set_cons_succ])
                  refine take0 (i := 4) (oi := _) (v := ?_) rfl (by kernel_rfl) (by kernel_rfl) (by kernel_rfl) (fun _ _ _ h => h) rfl (Or.inl ⟨by rfl, ?_⟩) (fun _ => hS) ?_
                  rotate_left
                  · intro w0; go_simp; with_reducible rfl
                  (try simp only [Act.put, List.setIfInBounds_toArray, List.set_cons_zero, List.set_cons_succ])
                  refine takeS (i := 5) (oi := _) (v := ?_) rfl (by kernel_rfl) (by kernel_rfl) (by kernel_rfl) (fun _ _ _ h => h) rfl (by kernel_rfl) (by kernel_rfl) (Or.inl ⟨by rfl, ?_⟩) hS ?_
                  rotate_left
                  · intro w0 hSw; (try dsimp only at hSw); go_simp; with_reducible rfl
                  (try simp only [Act.put, List.setIfInBounds_toArray, List.set_cons_zero, List.set_cons_succ])
                  refine take0 (i := 6) (oi := _) (v := ?_) rfl (by kernel_rfl) (by kernel_rfl) (by kernel_rfl) (fun _ _ _ h => h) rfl (Or.inl ⟨by rfl, ?_⟩) (fun _ => hS) ?_
                  rotate_left
                  · intro w0; go_simp; with_reducible rfl
                  (try simp only [Act.put, List.setIfInBounds_toArray, List.set_cons_zero, List.set_cons_succ])
                  refine takeS (i := 7) (oi := _) (v := ?_) rfl (by kernel_rfl) (by kernel_rfl) (by kernel_rfl) (fun _ _ _ h => h) rfl (by kernel_rfl) (by kernel_rfl) (Or.inl ⟨by rfl, ?_⟩) hS ?_
                  rotate_left
                  · intro w0 hSw; (try dsimp only at hSw); go_simp; with_reducible rfl
                  (try simp only [Act.put, List.setIfInBounds_toArray, List.set_cons_zero, List.set_cons_succ])
                  refine take0 (i := 8) (oi := _) (v := ?_) rfl (by kernel_rfl) (by kernel_rfl) (by kernel_rfl) (fun _ _ _ h => h) rfl (Or.inl ⟨by rfl, ?_⟩) (fun _ => hS) ?_
                  rotate_left
                  · intro w0; go_simp; with_reducible rfl
                  (try simp only [Act.put, List.setIfInBounds_toArray, List.set_cons_zero, List.set_cons_succ])
                  refine take0 (i := 9) (oi := _) (v := ?_) rfl (by kernel_rfl) (by kernel_rfl) (by kernel_rfl) (fun _ _ _ h => h) rfl (Or.inl ⟨by rfl, ?_⟩) (fun _ => hS) ?_
                  rotate_left
                  · intro w0; go_simp; with_reducible rfl
                  (try simp only [Act.put, List.setIfInBounds_toArray, List.set_cons_zero, List.set_cons_succ])
                  refine twoT (i := 10) (j := 12) (by kernel_rfl) rfl (by rfl) rfl (by rfl) (fun Kq hK => ?_) (fun Kq hK => ?_)
                  · go_simp
                    refine (of_same l _ (by omega) (by omega)).mono ?_
                    rintro e wv ⟨rfl, hwv⟩
                    rw [hwv]
                    clear hwv wv
                    refine hK _ _ (fun _ => hS) ?_
                    clear hK
                    (try simp only [Act.put, List.setIfInBounds_toArray, List.set_cons_zero, List.set_cons_succ])
                    refine take0 (i := 11) (oi := _) (v := ?_) rfl (by kernel_rfl) (by kernel_rfl) (by kernel_rfl) (fun _ _ _ h => h) rfl (Or.inl ⟨by rfl, ?_⟩) (fun _ => hS) ?_
                    rotate_left
                    · intro w0; go_simp; with_reducible rfl
                    (try simp only [Act.put, List.setIfInBounds_toArray, List.set_cons_zero, List.set_cons_succ])
                    refine oneT (i := 12) (by kernel_rfl) rfl (by rfl) (fun Kq hK => ?_)
                    go_simp
                    obtain ⟨w9, hw9⟩ : ∃ z : World, z = wd8.alloc (.cells #[.int .i64 0, .int .i64 0, .int .i64 0] 75) := ⟨_, rfl⟩
                    have hba : Below wd8.heap.size wd8 w9 := by rw [hw9]; exact below_new _ _
                    have KB9 : Hid (Blk w9 wd8.heap.size 75 #[.int .i64 0, .int .i64 0, .int .i64 0]) := by rw [hw9]; exact Blk.new _ _ _
                    have hS9 : w9.cell? ⟨bt, 1, none⟩ = some (.slice (some ⟨bY, offY, none⟩) ny4 cy4) ∧ w9.cell? ⟨bY, offY + j4, none⟩ = some (.int .i64 yN) ∧ w9.cell? ⟨gN, yN, none⟩ = some (.int .i64 (mN : Int)) := ⟨keepBox hba hS.1, keepBox hba hS.2.1, keepBox hba hS.2.2⟩
                    rw [← hw9]
                    have HBA := Lib.hid hba
                    clear hba hw9
                    refine hK _ _ (fun _ => hS9) ?_
                    clear hK
                    (try simp only [Act.put, List.setIfInBounds_toArray, List.set_cons_zero, List.set_cons_succ])
                    refine oneT (i := 13) (by kernel_rfl) rfl (by rfl) (fun Kq hK => ?_)
                    go_simp
                    obtain ⟨b9, hb9⟩ : ∃ q, q = wd8.heap.size := ⟨_, rfl⟩
                    have KT9 : Hid (Blk w9 b9 75 #[.int .i64 0, .int .i64 0, .int .i64 0]) := by rw [hb9]; exact KB9.out
                    have LE9 : Hid (wd8.heap.size ≤ b9) := by rw [hb9]; exact Nat.le_refl _
                    rw [← hb9]
                    clear hb9 KB9
                    have kc0 := KT9.out.cell 0
                    have kc1 := KT9.out.cell 1
                    have kc2 := KT9.out.cell 2
                    simp at kc0 kc1 kc2
                    have kf0 := KT9.out.frozen 0
                    have kf1 := KT9.out.frozen 1
                    have kf2 := KT9.out.frozen 2
                    have klt := KT9.out.lt
                    obtain ⟨wf, hwf⟩ : ∃ wf : World, wf = ((w9.setCell ⟨b9, 0, none⟩ (.int .i64 (mN : Int))).setCell ⟨b9, 1, none⟩ (.int .i64 (nowN : Int))).setCell ⟨b9, 2, none⟩ (.int .i64 (l.natAbs : Int)) := ⟨_, rfl⟩
                    have KF : Hid (Blk wf b9 75 #[.int .i64 (mN : Int), .int .i64 (nowN : Int), .int .i64 (l.natAbs : Int)]) := by
                      rw [hwf]
                      have := ((KT9.out.set_ 0 (.int .i64 (mN : Int))).set_ 1 (.int .i64 (nowN : Int))).set_ 2 (.int .i64 (l.natAbs : Int))
                      simpa [Hid] using this
                    have HB8 : Hid (Below wd8.heap.size wd8 wf) := by
                      rw [hwf]
                      exact ((HBA.out.setCell (p := ⟨b9, 0, none⟩) LE9.out _).setCell (p := ⟨b9, 1, none⟩) LE9.out _).setCell (p := ⟨b9, 2, none⟩) LE9.out _
                    go_simp
                    rw [← hwf]
                    refine hK _ _ (noT_no (by kernel_rfl)) ?_
                    clear hK
                    refine doneT (by kernel_rfl) ?_ _
                    have hSf : wf.cell? ⟨bt, 1, none⟩ = some (.slice (some ⟨bY, offY, none⟩) ny4 cy4) ∧ wf.cell? ⟨bY, offY + j4, none⟩ = some (.int .i64 yN) ∧ wf.cell? ⟨gN, yN, none⟩ = some (.int .i64 (mN : Int)) := ⟨keepBox HB8.out hS.1, keepBox HB8.out hS.2.1, keepBox HB8.out hS.2.2⟩
                    clear kc0 kc1 kc2 kf0 kf1 kf2 klt hwf KT9 HBA hS hS9
                    have kc0 := KF.out.cell 0
                    have kc1 := KF.out.cell 1
                    have kc2 := KF.out.cell 2
                    simp at kc0 kc1 kc2
                    have kf0 := KF.out.frozen 0
                    have kf1 := KF.out.frozen 1
                    have kf2 := KF.out.frozen 2
                    have klt := KF.out.lt
                    by_cases hl0 : l < 0
                    · have dl : decide (l < 0) = true := decide_eq_true hl0
                      go_wp2_with fail
                      obtain ⟨wx, hwd⟩ : ∃ z : World, z = wf.drew := ⟨_, rfl⟩
                      have hbd : Below wf.heap.size wf wx := by rw [hwd]; exact below_drewN _ 1
                      have HBX := Lib.hid (below_next HB8.out hbd)
                      have KX := Lib.hid (KF.out.keep hbd)
                      have hS : wx.cell? ⟨bt, 1, none⟩ = some (.slice (some ⟨bY, offY, none⟩) ny4 cy4) ∧ wx.cell? ⟨bY, offY + j4, none⟩ = some (.int .i64 yN) ∧ wx.cell? ⟨gN, yN, none⟩ = some (.int .i64 (mN : Int)) := ⟨keepBox hbd hSf.1, keepBox hbd hSf.2.1, keepBox hbd hSf.2.2⟩
                      have zbt9 := (cell_lt hS.1).1
                      have zcy9 := (cell_lt hS.2.1).1
                      have zcn9 := (cell_lt hS.2.2).1
                      clear hbd hSf HB8 KF kc0 kc1 kc2 kf0 kf1 kf2 klt
                      refine wp_region_tail (fun w' => w'.cell? ⟨bt, 1, none⟩ = some (.slice (some ⟨bY, offY, none⟩) ny4 cy4) ∧ w'.cell? ⟨bY, offY + j4, none⟩ = some (.int .i64 yN) ∧ w'.cell? ⟨gN, yN, none⟩ = some (.int .i64 (mN : Int))) [12] (by kernel_rfl) ?_
                      change wpAnyT _ _ _ _ _ _ _ _ _ wf.drew
                      rw [← hwd]
                      clear hwd
                      refine take0 (i := 0) (oi := _) (v := ?_) rfl (by kernel_rfl) (by kernel_rfl) (by kernel_rfl) (fun _ _ _ h => h) rfl (Or.inl ⟨by rfl, ?_⟩) (fun _ => hS) ?_
                      rotate_left
                      · intro w0; go_simp; with_reducible rfl
                      (try simp only [Act.put, List.setIfInBounds_toArray, List.set_cons_zero, List.set_cons_succ])
                      refine take0 (i := 1) (oi := _) (v := ?_) rfl (by kernel_rfl) (by kernel_rfl) (by kernel_rfl) (fun _ _ _ h => h) rfl (Or.inl ⟨by rfl, ?_⟩) (fun _ => hS) ?_
                      rotate_left
                      · intro w0; go_simp; with_reducible rfl
                      (try simp only [Act.put, List.setIfInBounds_toArray, List.set_cons_zero, List.set_cons_succ])
                      refine take0 (i := 2) (oi := _) (v := ?_) rfl (by kernel_rfl) (by kernel_rfl) (by kernel_rfl) (fun _ _ _ h => h) rfl (Or.inl ⟨by rfl, ?_⟩) (fun _ => hS) ?_
                      rotate_left
                      · intro w0; go_simp; with_reducible rfl
                      (try simp only [Act.put, List.setIfInBounds_toArray, List.set_cons_zero, List.set_cons_succ])
                      refine takeS (i := 3) (oi := _) (v := ?_) rfl (by kernel_rfl) (by kernel_rfl) (by kernel_rfl) (fun _ _ _ h => h) rfl (by kernel_rfl) (by kernel_rfl) (Or.inl ⟨by rfl, ?_⟩) hS ?_
                      rotate_left
                      · intro w0 hSw; (try dsimp only at hSw); go_simp; with_reducible rfl
                      (try simp only [Act.put, List.setIfInBounds_toArray, List.set_cons_zero, List.set_cons_succ])
                      refine take0 (i := 4) (oi := _) (v := ?_) rfl (by kernel_rfl) (by kernel_rfl) (by kernel_rfl) (fun _ _ _ h => h) rfl (Or.inl ⟨by rfl, ?_⟩) (fun _ => hS) ?_
                      rotate_left
                      · intro w0; go_simp; with_reducible rfl
                      (try simp only [Act.put, List.setIfInBounds_toArray, List.set_cons_zero, List.set_cons_succ])
                      refine take0 (i := 5) (oi := _) (v := ?_) rfl (by kernel_rfl) (by kernel_rfl) (by kernel_rfl) (fun _ _ _ h => h) rfl (Or.inl ⟨by rfl, ?_⟩) (fun _ => hS) ?_
                      rotate_left
                      · intro w0; go_simp; with_reducible rfl
                      (try simp only [Act.put, List.setIfInBounds_toArray, List.set_cons_zero, List.set_cons_succ])
                      refine takeS (i := 6) (oi := _) (v := ?_) rfl (by kernel_rfl) (by kernel_rfl) (by kernel_rfl) (fun _ _ _ h => h) rfl (by kernel_rfl) (by kernel_rfl) (Or.inl ⟨by rfl, ?_⟩) hS ?_
                      rotate_left
                      · intro w0 hSw; (try dsimp only at hSw); go_simp; with_reducible rfl
                      (try simp only [Act.put, List.setIfInBounds_toArray, List.set_cons_zero, List.set_cons_succ])
                      refine take0 (i := 7) (oi := _) (v := ?_) rfl (by kernel_rfl) (by kernel_rfl) (by kernel_rfl) (fun _ _ _ h => h) rfl (Or.inl ⟨by rfl, ?_⟩) (fun _ => hS) ?_
                      rotate_left
                      · intro w0; go_simp; with_reducible rfl
                      (try simp only [Act.put, List.setIfInBounds_toArray, List.set_cons_zero, List.set_cons_succ])
                      refine takeS (i := 8) (oi := _) (v := ?_) rfl (by kernel_rfl) (by kernel_rfl) (by kernel_rfl) (fun _ _ _ h => h) rfl (by kernel_rfl) (by kernel_rfl) (Or.inl ⟨by rfl, ?_⟩) hS ?_
                      rotate_left
                      · intro w0 hSw; (try dsimp only at hSw); go_simp; with_reducible rfl
                      (try simp only [Act.put, List.setIfInBounds_toArray, List.set_cons_zero, List.set_cons_succ])
                      refine take0 (i := 9) (oi := _) (v := ?_) rfl (by kernel_rfl) (by kernel_rfl) (by kernel_rfl) (fun _ _ _ h => h) rfl (Or.inl ⟨by rfl, ?_⟩) (fun _ => hS) ?_
                      rotate_left
                      · intro w0; go_simp; with_reducible rfl
                      (try simp only [Act.put, List.setIfInBounds_toArray, List.set_cons_zero, List.set_cons_succ])
                      refine oneT (i := 10) (by kernel_rfl) rfl (by rfl) (fun Kq hK => ?_)
                      go_simp
                      refine (of_same l _ (by omega) (by omega)).mono ?_
                      rintro e wv ⟨rfl, hwv⟩
                      rw [hwv]
                      clear hwv wv
                      refine hK _ _ (fun _ => hS) ?_
                      clear hK
                      (try simp only [Act.put, List.setIfInBounds_toArray, List.set_cons_zero, List.set_cons_succ])
                      refine take0 (i := 11) (oi := _) (v := ?_) rfl (by kernel_rfl) (by kernel_rfl) (by kernel_rfl) (fun _ _ _ h => h) rfl (Or.inl ⟨by rfl, ?_⟩) (fun _ => hS) ?_
                      rotate_left
                      · intro w0; go_simp; with_reducible rfl
                      (try simp only [Act.put, List.setIfInBounds_toArray, List.set_cons_zero, List.set_cons_succ])
                      refine oneT (i := 12) (by kernel_rfl) rfl (by rfl) (fun Kq hK => ?_)
                      have kc0 := KX.out.cell 0
                      have kc1 := KX.out.cell 1
                      have kc2 := KX.out.cell 2
                      simp at kc0 kc1 kc2
                      have kf0 := KX.out.frozen 0
                      have kf1 := KX.out.frozen 1
                      have kf2 := KX.out.frozen 2
                      have klt := KX.out.lt
                      go_simp
                      obtain ⟨wg, hwg⟩ : ∃ z : World, z = ((wx.setCell ⟨b9, 0, none⟩ (.int .i64 (nowN : Int))).setCell ⟨b9, 1, none⟩ (.int .i64 (mN : Int))).setCell ⟨b9, 2, none⟩ (.int .i64 (l.natAbs : Int)) := ⟨_, rfl⟩
                      have KG : Hid (Blk wg b9 75 #[.int .i64 (nowN : Int), .int .i64 (mN : Int), .int .i64 (l.natAbs : Int)]) := by
                        rw [hwg]
                        have := ((KX.out.set_ 0 (.int .i64 (nowN : Int))).set_ 1 (.int .i64 (mN : Int))).set_ 2 (.int .i64 (l.natAbs : Int))
                        simpa [Hid] using this
                      have HBG : Hid (Below wd8.heap.size wd8 wg) := by
                        rw [hwg]
                        exact ((HBX.out.setCell (p := ⟨b9, 0, none⟩) LE9.out _).setCell (p := ⟨b9, 1, none⟩) LE9.out _).setCell (p := ⟨b9, 2, none⟩) LE9.out _
                      rw [← hwg]
                      refine hK _ _ (noT_no (by kernel_rfl)) ?_
                      clear hK
                      refine doneT (by kernel_rfl) ?_ _
                      have hrs : Hid (rsT l nowN mN = ((nowN : Int), (mN : Int), (l.natAbs : Int))) := by show _ = _; unfold rsT; rw [if_pos (by omega)]
                      clear kc0 kc1 kc2 kf0 kf1 kf2 klt hwg KX HBX hS zbt9 zcy9 zcn9
                      go_wp2_with fail
                      obtain ⟨wi, hwd⟩ : ∃ z : World, z = wg.drew := ⟨_, rfl⟩
                      have hbd : Below wg.heap.size wg wi := by rw [hwd]; exact below_drewN _ 1
                      have HBI := Lib.hid (below_next HBG.out hbd)
                      have KI := Lib.hid (KG.out.keep hbd)
                      clear hbd HBG KG
                      have HTi := Lib.hid (HT8.out.keep HBI.out)
                      obtain ⟨_, Xn, qn, dn, xn, hE1, _, _, hcn, _, hIn, _, hxn⟩ := HTi.out.ko.p.round hnowl
                      cases hE1
                      obtain ⟨_, Xm, qm, dm, xm, hE2, _, _, hcm, _, hIm, _, hxm⟩ := HTi.out.ko.p.round hmk
                      cases hE2
                      have HIn := Lib.hid hIn
                      have HIm := Lib.hid hIm
                      have kc0 := KI.out.cell 0
                      have kc1 := KI.out.cell 1
                      have kc2 := KI.out.cell 2
                      simp at kc0 kc1 kc2
                      have hS : wi.cell? ⟨gK2, nowN, none⟩ = some (.slice Xn qn dn) ∧ wi.cell? ⟨gK2, mN, none⟩ = some (.slice Xm qm dm) ∧ wi.cell? ⟨b9, 0, none⟩ = some (.int .i64 (nowN : Int)) ∧ wi.cell? ⟨b9, 1, none⟩ = some (.int .i64 (mN : Int)) ∧ wi.cell? ⟨b9, 2, none⟩ = some (.int .i64 (l.natAbs : Int)) := ⟨hcn, hcm, kc0, kc1, kc2⟩
                      clear kc0 kc1 kc2 hcn hcm hIn hIm
                      have zgk := (cell_lt hS.1).1
                      have zb9 := (cell_lt hS.2.2.1).1
                      have hLn : Hid (Lits vars xn) := hI4.out.1 _ (List.mem_of_getElem? hxn.out)
                      have hLm : Hid (Lits vars xm) := hI4.out.1 _ (List.mem_of_getElem? hxm.out)
                      have hqn : qn ≤ 1000 := by have := hLn.out.len_le v0; rw [HIn.out.len] at this; omega
                      have hqm : qm ≤ 1000 := by have := hLm.out.len_le v0; rw [HIm.out.len] at this; omega
                      obtain ⟨lr, code, hres⟩ : ∃ lr code, Hid (resF xn xm (l.natAbs : Int) = (lr, code)) := ⟨_, _, rfl⟩
                      have hone : Hid ((oneR al2 (rsT l nowN mN)).1 = lr) := by
                        show _ = _
                        rw [hrs.out]
                        show (resF (al2.getD (nowN : Int).toNat []) (al2.getD (mN : Int).toNat []) (l.natAbs : Int)).1 = lr
                        rw [Int.toNat_natCast, Int.toNat_natCast, List.getD_eq_getElem?_getD, List.getD_eq_getElem?_getD, hxn.out, hxm.out]
                        exact congrArg Prod.fst hres.out
                      have hLr : Hid (Lits vars lr) := by have := resF_litsAny (v := (l.natAbs : Int)) hLn.out hLm.out; rw [hres.out] at this; exact this
                      have hst6 : Hid (trR known t y j4 (al2 ++ [lr]) (nk2 : Int) (ou2 ++ [((nowN : Int), (mN : Int), (l.natAbs : Int))]) = (f1, f2, f3)) := by
                        have := hst5.out
                        rw [hone.out, hrs.out, HTi.out.ko.p.len] at this
                        exact this
                      have hBn : Hid (∀ x ∈ xn, -1000000 ≤ x ∧ x ≤ 1000000) := fun x hx => by have := hLn.out.1 x hx; omega
                      have hBm : Hid (∀ x ∈ xm, -1000000 ≤ x ∧ x ≤ 1000000) := fun x hx => by have := hLm.out.1 x hx; omega
                      clear hxn hxm hLn hLm hone hst5 hrs HTi
                      refine wp_region_tail (fun w' => w'.cell? ⟨gK2, nowN, none⟩ = some (.slice Xn qn dn) ∧ w'.cell? ⟨gK2, mN, none⟩ = some (.slice Xm qm dm) ∧ w'.cell? ⟨b9, 0, none⟩ = some (.int .i64 (nowN : Int)) ∧ w'.cell? ⟨b9, 1, none⟩ = some (.int .i64 (mN : Int)) ∧ w'.cell? ⟨b9, 2, none⟩ = some (.int .i64 (l.natAbs : Int))) [] (by kernel_rfl) ?_
                      change wpAnyT _ _ _ _ _ _ _ _ _ wg.drew
                      rw [← hwd]
                      clear hwd
                      refine take0 (i := 0) (oi := _) (v := ?_) rfl (by kernel_rfl) (by kernel_rfl) (by kernel_rfl) (fun _ _ _ h => h) rfl (Or.inl ⟨by rfl, ?_⟩) (fun _ => hS) ?_
                      rotate_left
                      · intro w0; go_simp; with_reducible rfl
                      (try simp only [Act.put, List.setIfInBounds_toArray, List.set_cons_zero, List.set_cons_succ])
                      refine take0 (i := 1) (oi := _) (v := ?_) rfl (by kernel_rfl) (by kernel_rfl) (by kernel_rfl) (fun _ _ _ h => h) rfl (Or.inl ⟨by rfl, ?_⟩) (fun _ => hS) ?_
                      rotate_left
                      · intro w0; go_simp; with_reducible rfl
                      (try simp only [Act.put, List.setIfInBounds_toArray, List.set_cons_zero, List.set_cons_succ])
                      refine takeS (i := 2) (oi := _) (v := ?_) rfl (by kernel_rfl) (by kernel_rfl) (by kernel_rfl) (fun _ _ _ h => h) rfl (by kernel_rfl) (by kernel_rfl) (Or.inl ⟨by rfl, ?_⟩) hS ?_
                      rotate_left
                      · intro w0 hSw; (try dsimp only at hSw); go_simp; with_reducible rfl
                      (try simp only [Act.put, List.setIfInBounds_toArray, List.set_cons_zero, List.set_cons_succ])
                      refine take0 (i := 3) (oi := _) (v := ?_) rfl (by kernel_rfl) (by kernel_rfl) (by kernel_rfl) (fun _ _ _ h => h) rfl (Or.inl ⟨by rfl, ?_⟩) (fun _ => hS) ?_
                      rotate_left
                      · intro w0; go_simp; with_reducible rfl
                      (try simp only [Act.put, List.setIfInBounds_toArray, List.set_cons_zero, List.set_cons_succ])
                      refine takeS (i := 4) (oi := _) (v := ?_) rfl (by kernel_rfl) (by kernel_rfl) (by kernel_rfl) (fun _ _ _ h => h) rfl (by kernel_rfl) (by kernel_rfl) (Or.inl ⟨by rfl, ?_⟩) hS ?_
                      rotate_left
                      · intro w0 hSw; (try dsimp only at hSw); go_simp; with_reducible rfl
                      (try simp only [Act.put, List.setIfInBounds_toArray, List.set_cons_zero, List.set_cons_succ])
                      refine take0 (i := 5) (oi := _) (v := ?_) rfl (by kernel_rfl) (by kernel_rfl) (by kernel_rfl) (fun _ _ _ h => h) rfl (Or.inl ⟨by rfl, ?_⟩) (fun _ => hS) ?_
                      rotate_left
                      · intro w0; go_simp; with_reducible rfl
                      (try simp only [Act.put, List.setIfInBounds_toArray, List.set_cons_zero, List.set_cons_succ])
                      refine take0 (i := 6) (oi := _) (v := ?_) rfl (by kernel_rfl) (by kernel_rfl) (by kernel_rfl) (fun _ _ _ h => h) rfl (Or.inl ⟨by rfl, ?_⟩) (fun _ => hS) ?_
                      rotate_left
                      · intro w0; go_simp; with_reducible rfl
                      (try simp only [Act.put, List.setIfInBounds_toArray, List.set_cons_zero, List.set_cons_succ])
                      refine takeS (i := 7) (oi := _) (v := ?_) rfl (by kernel_rfl) (by kernel_rfl) (by kernel_rfl) (fun _ _ _ h => h) rfl (by kernel_rfl) (by kernel_rfl) (Or.inl ⟨by rfl, ?_⟩) hS ?_
                      rotate_left
                      · intro w0 hSw; (try dsimp only at hSw); go_simp; with_reducible rfl
                      (try simp only [Act.put, List.setIfInBounds_toArray, List.set_cons_zero, List.set_cons_succ])
                      refine take0 (i := 8) (oi := _) (v := ?_) rfl (by kernel_rfl) (by kernel_rfl) (by kernel_rfl) (fun _ _ _ h => h) rfl (Or.inl ⟨by rfl, ?_⟩) (fun _ => hS) ?_
                      rotate_left
                      · intro w0; go_simp; with_reducible rfl
                      (try simp only [Act.put, List.setIfInBounds_toArray, List.set_cons_zero, List.set_cons_succ])
                      refine takeS (i := 9) (oi := _) (v := ?_) rfl (by kernel_rfl) (by kernel_rfl) (by kernel_rfl) (fun _ _ _ h => h) rfl (by kernel_rfl) (by kernel_rfl) (Or.inl ⟨by rfl, ?_⟩) hS ?_
                      rotate_left
                      · intro w0 hSw; (try dsimp only at hSw); go_simp; with_reducible rfl
                      (try simp only [Act.put, List.setIfInBounds_toArray, List.set_cons_zero, List.set_cons_succ])
                      refine take0 (i := 10) (oi := _) (v := ?_) rfl (by kernel_rfl) (by kernel_rfl) (by kernel_rfl) (fun _ _ _ h => h) rfl (Or.inl ⟨by rfl, ?_⟩) (fun _ => hS) ?_
                      rotate_left
                      · intro w0; go_simp; with_reducible rfl
                      (try simp only [Act.put, List.setIfInBounds_toArray, List.set_cons_zero, List.set_cons_succ])
                      refine takeS (i := 11) (oi := _) (v := ?_) rfl (by kernel_rfl) (by kernel_rfl) (by kernel_rfl) (fun _ _ _ h => h) rfl (by kernel_rfl) (by kernel_rfl) (Or.inl ⟨by rfl, ?_⟩) hS ?_
                      rotate_left
                      · intro w0 hSw; (try dsimp only at hSw); go_simp; with_reducible rfl
                      (try simp only [Act.put, List.setIfInBounds_toArray, List.set_cons_zero, List.set_cons_succ])
                      refine oneT (i := 12) (by kernel_rfl) rfl (by rfl) (fun Kq hK => ?_)
                      go_simp
                      refine (resolved_ref Xn Xm qn dn qm dm xn xm (l.natAbs : Int) wi HIn.out HIm.out hBn.out hBm.out (by omega) (by omega) lr code hres).mono ?_
                      rintro e wj ⟨L2, nl2, cl2, rfl, ⟨hRi, hRo⟩, hbj⟩
                      have HRI := Lib.hid hRi
                      have HRO := Lib.hid hRo
                      have HBJ := Lib.hid (below_next HBI.out hbj)
                      have KJ := Lib.hid (KI.out.keep hbj)
                      have hWi : Hid (w5.heap.size ≤ wi.heap.size) := Nat.le_trans HW8.out HBI.out.size
                      have hSj : wj.cell? ⟨gK2, nowN, none⟩ = some (.slice Xn qn dn) ∧ wj.cell? ⟨gK2, mN, none⟩ = some (.slice Xm qm dm) ∧ wj.cell? ⟨b9, 0, none⟩ = some (.int .i64 (nowN : Int)) ∧ wj.cell? ⟨b9, 1, none⟩ = some (.int .i64 (mN : Int)) ∧ wj.cell? ⟨b9, 2, none⟩ = some (.int .i64 (l.natAbs : Int)) := ⟨keepBox hbj hS.1, keepBox hbj hS.2.1, keepBox hbj hS.2.2.1, keepBox hbj hS.2.2.2.1, keepBox hbj hS.2.2.2.2⟩
                      clear hRi hRo hbj HBI KI HIn HIm hBn hBm hres hS
                      refine hK _ _ (fun _ => hSj) ?_
                      clear hK
                      (try simp only [Act.put, List.setIfInBounds_toArray, List.set_cons_zero, List.set_cons_succ])
                      refine take0 (i := 13) (oi := _) (v := ?_) rfl (by kernel_rfl) (by kernel_rfl) (by kernel_rfl) (fun _ _ _ h => h) rfl (Or.inl ⟨by rfl, ?_⟩) (fun _ => hSj) ?_
                      rotate_left
                      · intro w0; go_simp; with_reducible rfl
                      (try simp only [Act.put, List.setIfInBounds_toArray, List.set_cons_zero, List.set_cons_succ])
                      refine take0 (i := 14) (oi := _) (v := ?_) rfl (by kernel_rfl) (by kernel_rfl) (by kernel_rfl) (fun _ _ _ h => h) rfl (Or.inl ⟨by rfl, ?_⟩) (fun _ => hSj) ?_
                      rotate_left
                      · intro w0; go_simp; with_reducible rfl
                      (try simp only [Act.put, List.setIfInBounds_toArray, List.set_cons_zero, List.set_cons_succ])
                      refine take0 (i := 15) (oi := _) (v := ?_) rfl (by kernel_rfl) (by kernel_rfl) (by kernel_rfl) (fun _ _ _ h => h) rfl (Or.inl ⟨by rfl, ?_⟩) (fun _ => hSj) ?_
                      rotate_left
                      · intro w0; go_simp; with_reducible rfl
                      (try simp only [Act.put, List.setIfInBounds_toArray, List.set_cons_zero, List.set_cons_succ])
                      refine take0 (i := 16) (oi := _) (v := ?_) rfl (by kernel_rfl) (by kernel_rfl) (by kernel_rfl) (fun _ _ _ h => h) rfl (Or.inl ⟨by rfl, ?_⟩) (fun _ => hSj) ?_
                      rotate_left
                      · intro w0; go_simp; with_reducible rfl
                      (try simp only [Act.put, List.setIfInBounds_toArray, List.set_cons_zero, List.set_cons_succ])
                      refine take0 (i := 17) (oi := _) (v := ?_) rfl (by kernel_rfl) (by kernel_rfl) (by kernel_rfl) (fun _ _ _ h => h) rfl (Or.inl ⟨by rfl, ?_⟩) (fun _ => hSj) ?_
                      rotate_left
                      · intro w0; go_simp; with_reducible rfl
                      (try simp only [Act.put, List.setIfInBounds_toArray, List.set_cons_zero, List.set_cons_succ])
                      refine doneT (by kernel_rfl) ?_ _
                      clear hSj zgk zb9
                      have HTj := Lib.hid (HT8.out.keep HBJ.out)
                      have HKj := Lib.hid (HK8.out.keep HBJ.out)
                      have HAj : Hid (Ints wj (some ⟨bL, offL, none⟩) nl4 cl4 t ∧ Ints wj (some ⟨bY, offY, none⟩) ny4 cy4 y ∧ Apart 3 wj 0 (some ⟨bL, offL, none⟩) ∧ Apart 3 wj 0 (some ⟨bY, offY, none⟩)) := ⟨HA8.out.1.keep HBJ.out, HA8.out.2.1.keep HBJ.out, HA8.out.2.2.1.keep HBJ.out, HA8.out.2.2.2.keep HBJ.out⟩
                      have HWj : Hid (w5.heap.size ≤ wj.heap.size) := Nat.le_trans HW8.out HBJ.out.size
                      have hnl2 := HRI.out.bd
                      have FR : Hid (blockOf L2 = none ∨ blockOf L2 ≠ blockOf (some ⟨gN, 0, none⟩)) := own_far HRO.out (fun q hq => by have h1 := hBN.out q hq; have h2 := hWi.out; omega)
                      have kc0 := KJ.out.cell 0
                      have kc1 := KJ.out.cell 1
                      have kc2 := KJ.out.cell 2
                      simp at kc0 kc1 kc2
                      have kf0 := KJ.out.frozen 0
                      have kf1 := KJ.out.frozen 1
                      have kf2 := KJ.out.frozen 2
                      have klt := KJ.out.lt
                      have hba : Below wj.heap.size wj (wj.alloc (.cells #[.int .i64 (nowN : Int), .int .i64 (mN : Int), .int .i64 (l.natAbs : Int)] 75)) := below_new _ _
                      have KN : Hid (Blk (wj.alloc (.cells #[.int .i64 (nowN : Int), .int .i64 (mN : Int), .int .i64 (l.natAbs : Int)] 75)) wj.heap.size 75 #[.int .i64 (nowN : Int), .int .i64 (mN : Int), .int .i64 (l.natAbs : Int)]) := Blk.new _ _ _
                      have HT1 := Lib.hid (HTj.out.keep hba)
                      have HK1 := Lib.hid (HKj.out.keep hba)
                      have HA1 : Hid (Ints (wj.alloc (.cells #[.int .i64 (nowN : Int), .int .i64 (mN : Int), .int .i64 (l.natAbs : Int)] 75)) (some ⟨bL, offL, none⟩) nl4 cl4 t ∧ Ints (wj.alloc (.cells #[.int .i64 (nowN : Int), .int .i64 (mN : Int), .int .i64 (l.natAbs : Int)] 75)) (some ⟨bY, offY, none⟩) ny4 cy4 y ∧ Apart 3 (wj.alloc (.cells #[.int .i64 (nowN : Int), .int .i64 (mN : Int), .int .i64 (l.natAbs : Int)] 75)) 0 (some ⟨bL, offL, none⟩) ∧ Apart 3 (wj.alloc (.cells #[.int .i64 (nowN : Int), .int .i64 (mN : Int), .int .i64 (l.natAbs : Int)] 75)) 0 (some ⟨bY, offY, none⟩)) := ⟨HAj.out.1.keep hba, HAj.out.2.1.keep hba, HAj.out.2.2.1.keep hba, HAj.out.2.2.2.keep hba⟩
                      have HR1 := Lib.hid (HRI.out.keep hba)
                      have HO1 := Lib.hid (HRO.out.keep hba)
                      have hz9 := HT1.out.bl.size
                      have hwz1 : Hid (w5.heap.size ≤ (wj.alloc (.cells #[.int .i64 (nowN : Int), .int .i64 (mN : Int), .int .i64 (l.natAbs : Int)] 75)).heap.size) := Nat.le_trans HWj.out hba.size
                      have hnoL : no2 ≤ 3000 := by omega
                      have hnowI : (nowN : Int) < (nk2 : Int) := by omega
                      have hmI : (mN : Int) < (nk2 : Int) := by omega
                      have hnk3 : nk2 ≤ 4000 := by omega
                      clear hba HT8 HK8 HA8 HW8 HBJ HTj HKj HAj HWj HRI HRO hWi KJ
                      go_wp2_with (first
                        | (at_builtin
                           refine wpList_append_res _ rfl (.tmp 158) (.tmp 160) 69 rfl w1.heap.size ires _ Try.underlying69 hires hs0 hs1 hs2 rfl O2 no2 co2 _ rfl HT1.out.oo wj.heap.size ((nowN : Int), (mN : Int), (l.natAbs : Int)) rfl (fun j u hu => by
                             have := KN.out.cell j
                             rw [this]
                             have hj : j < 3 := by have := (List.getElem?_eq_some_iff.1 hu).1; simpa [cells3] using this
                             match j, hj, hu with
                             | 0, _, hu => simpa [cells3] using hu
                             | 1, _, hu => simpa [cells3] using hu
                             | 2, _, hu => simpa [cells3] using hu) ⟨by unfold I64; simp only; omega, by unfold I64; simp only; omega, by unfold I64; simp only; omega⟩ (by simp only [maxLen]; omega) (by omega) hz9 ?_
                           intro O3 co3 wz hO3 hG3
                           have HT2 := Lib.hid (HT1.out.growO hO3 hG3)
                           have hty : ∀ q, blockOf O2 = some q → Typed 75 (wj.alloc (.cells #[.int .i64 (nowN : Int), .int .i64 (mN : Int), .int .i64 (l.natAbs : Int)] 75)) q := fun q hq => (HT1.out.oo.base hq).2
                           have HK2 : Hid (Blk wz bt 35 #[.slice (some ⟨bL, offL, none⟩) nl4 cl4, .slice (some ⟨bY, offY, none⟩) ny4 cy4, .int .i64 aN]) := blk_kept HK1.out hG3 hty (by decide)
                           have HA2 : Hid (Ints wz (some ⟨bL, offL, none⟩) nl4 cl4 t ∧ Ints wz (some ⟨bY, offY, none⟩) ny4 cy4 y ∧ Apart 3 wz 0 (some ⟨bL, offL, none⟩) ∧ Apart 3 wz 0 (some ⟨bY, offY, none⟩)) := two_kept HA1.out hG3 hty (by decide)
                           have HO2 := Lib.hid (HO1.out.keptT hG3 hty (by decide))
                           have HR2 := Lib.hid (HO2.out.ints (fun z hz => by have := hLr.out.1 z hz; unfold I64; omega))
                           have hba2 : Below wz.heap.size wz (wz.alloc (.cells #[.slice L2 nl2 cl2] 25)) := below_new _ _
                           have HT3 := Lib.hid (HT2.out.keep hba2)
                           have HK3 := Lib.hid (HK2.out.keep hba2)
                           have HA3 : Hid (Ints (wz.alloc (.cells #[.slice L2 nl2 cl2] 25)) (some ⟨bL, offL, none⟩) nl4 cl4 t ∧ Ints (wz.alloc (.cells #[.slice L2 nl2 cl2] 25)) (some ⟨bY, offY, none⟩) ny4 cy4 y ∧ Apart 3 (wz.alloc (.cells #[.slice L2 nl2 cl2] 25)) 0 (some ⟨bL, offL, none⟩) ∧ Apart 3 (wz.alloc (.cells #[.slice L2 nl2 cl2] 25)) 0 (some ⟨bY, offY, none⟩)) := ⟨HA2.out.1.keep hba2, HA2.out.2.1.keep hba2, HA2.out.2.2.1.keep hba2, HA2.out.2.2.2.keep hba2⟩
                           have HR3 := Lib.hid (HR2.out.keep hba2)
                           have HO3 := Lib.hid (HO2.out.keep hba2)
                           have hwz3 : Hid (w5.heap.size ≤ (wz.alloc (.cells #[.slice L2 nl2 cl2] 25)).heap.size) := Nat.le_trans (Nat.le_trans hwz1.out hG3.size) hba2.size
                           have HSS := Lib.hid (sl_one wz 25 (.slice L2 nl2 cl2) rfl)
                           have hz10 := HT3.out.bl.size
                           obtain ⟨vs, hv1, hv2, hv3⟩ := HT3.out.ko
                           have HV1 := Lib.hid hv1
                           have HV2 := Lib.hid hv2
                           have HV3 := Lib.hid hv3
                           clear hO3 hG3 hty hba2 HT2 HK2 HA2 HR2 HO2 HT1 HK1 HA1 HR1 HO1 hv1 hv2 hv3 KN hwz1 kc0 kc1 kc2 kf0 kf1 kf2 klt)
                        | (at_builtin
                           refine wpList_append_sl _ rfl (.tmp 162) (.tmp 164) _ rfl w1.heap.size 25 ir _ 24 Try.underlying22 hir hr0 hr1 hr2 rfl (some ⟨gK2, 0, none⟩) nk2 ck2 vs rfl HV1.out (some ⟨wz.heap.size, 0, none⟩) 1 1 _ rfl HSS.out (by simp [Value.oneCell']) (by simp only [maxLen]; omega) (by omega) hz10 ?_
                           intro K3 ck3 w6 hK3 hG4 hA4
                           have HT6 : Hid (UnG w1 w6 K3 (nk2 + 1) ck3 (some ⟨gN, 0, none⟩) i cn' O3 (no2 + 1) co3 (al2 ++ [lr]) known (ou2 ++ [((nowN : Int), (mN : Int), (l.natAbs : Int))])) := HT3.out.growK HV1.out HV2.out HV3.out HR3.out (Away.own HO3.out) (fun _ => FR.out) hK3 hG4
                           have hty : ∀ q, blockOf (some ⟨gK2, 0, none⟩) = some q → Typed 25 (wz.alloc (.cells #[.slice L2 nl2 cl2] 25)) q := fun q hq => (own_rows HV1.out (Nat.le_refl _) q hq).2
                           have HK6 : Hid (Blk w6 bt 35 #[.slice (some ⟨bL, offL, none⟩) nl4 cl4, .slice (some ⟨bY, offY, none⟩) ny4 cy4, .int .i64 aN]) := blk_kept HK3.out hG4 hty (by decide)
                           have HA6 : Hid (Ints w6 (some ⟨bL, offL, none⟩) nl4 cl4 t ∧ Ints w6 (some ⟨bY, offY, none⟩) ny4 cy4 y ∧ Apart 3 w6 0 (some ⟨bL, offL, none⟩) ∧ Apart 3 w6 0 (some ⟨bY, offY, none⟩)) := two_kept HA3.out hG4 hty (by decide)
                           have hwz6 : Hid (w5.heap.size ≤ w6.heap.size) := Nat.le_trans hwz3.out hG4.size
                           clear hK3 hG4 hA4 hty HT3 HK3 HA3 HR3 HO3 HV1 HV2 HV3 HSS))
                      have hno4' : no2 + 1 + j4 ≤ no + t.length := by omega
                      have HI9 : Hid ((∀ x ∈ al2 ++ [lr], Lits vars x) ∧ 0 ≤ (nk2 : Int) ∧ (nk2 : Int) < ((nk2 + 1 : Nat) : Int)) := ⟨fun x hx => by
                        rcases List.mem_append.1 hx with hx | hx
                        · exact hI4.out.1 x hx
                        · simp at hx; subst hx; exact hLr.out, by omega, by omega⟩
                      go_roundw
                      case rel => exact ⟨j4, nk2 + 1, ck3, no2 + 1, co3, K3, O3, al2 ++ [lr], ou2 ++ [((nowN : Int), (mN : Int), (l.natAbs : Int))], (nk2 : Int), by omega, hno4', by omega, by omega, by omega, rfl, rfl, by go_num, by go_num, HT6, HK6, HA6, hwz6, HI9, hst6⟩
                      case measure => simp [intOf] <;> omega
                    · have dl : decide (l < 0) = false := decide_eq_false hl0
                      go_wp2_with fail
                      obtain ⟨wg, hwg⟩ : ∃ z : World, z = wf := ⟨_, rfl⟩
                      subst hwg
                      have KG := KF
                      have HBG := HB8
                      have hrs : Hid (rsT l nowN mN = ((mN : Int), (nowN : Int), (l.natAbs : Int))) := by show _ = _; unfold rsT; rw [if_neg (by omega)]
                      clear kc0 kc1 kc2 kf0 kf1 kf2 klt KF HB8 hSf
                      obtain ⟨wi, hwd⟩ : ∃ z : World, z = wg.drew := ⟨_, rfl⟩
                      have hbd : Below wg.heap.size wg wi := by rw [hwd]; exact below_drewN _ 1
                      have HBI := Lib.hid (below_next HBG.out hbd)
                      have KI := Lib.hid (KG.out.keep hbd)
                      clear hbd HBG KG
                      have HTi := Lib.hid (HT8.out.keep HBI.out)
                      obtain ⟨_, Xn, qn, dn, xn, hE1, _, _, hcn, _, hIn, _, hxn⟩ := HTi.out.ko.p.round hnowl
                      cases hE1
                      obtain ⟨_, Xm, qm, dm, xm, hE2, _, _, hcm, _, hIm, _, hxm⟩ := HTi.out.ko.p.round hmk
                      cases hE2
                      have HIn := Lib.hid hIn
                      have HIm := Lib.hid hIm
                      have kc0 := KI.out.cell 0
                      have kc1 := KI.out.cell 1
                      have kc2 := KI.out.cell 2
                      simp at kc0 kc1 kc2
                      have hS : wi.cell? ⟨gK2, mN, none⟩ = some (.slice Xm qm dm) ∧ wi.cell? ⟨gK2, nowN, none⟩ = some (.slice Xn qn dn) ∧ wi.cell? ⟨b9, 0, none⟩ = some (.int .i64 (mN : Int)) ∧ wi.cell? ⟨b9, 1, none⟩ = some (.int .i64 (nowN : Int)) ∧ wi.cell? ⟨b9, 2, none⟩ = some (.int .i64 (l.natAbs : Int)) := ⟨hcm, hcn, kc0, kc1, kc2⟩
                      clear kc0 kc1 kc2 hcn hcm hIn hIm
                      have zgk := (cell_lt hS.1).1
                      have zb9 := (cell_lt hS.2.2.1).1
                      have hLn : Hid (Lits vars xn) := hI4.out.1 _ (List.mem_of_getElem? hxn.out)
                      have hLm : Hid (Lits vars xm) := hI4.out.1 _ (List.mem_of_getElem? hxm.out)
                      have hqn : qn ≤ 1000 := by have := hLn.out.len_le v0; rw [HIn.out.len] at this; omega
                      have hqm : qm ≤ 1000 := by have := hLm.out.len_le v0; rw [HIm.out.len] at this; omega
                      obtain ⟨lr, code, hres⟩ : ∃ lr code, Hid (resF xm xn (l.natAbs : Int) = (lr, code)) := ⟨_, _, rfl⟩
                      have hone : Hid ((oneR al2 (rsT l nowN mN)).1 = lr) := by
                        show _ = _
                        rw [hrs.out]
                        show (resF (al2.getD (mN : Int).toNat []) (al2.getD (nowN : Int).toNat []) (l.natAbs : Int)).1 = lr
                        rw [Int.toNat_natCast, Int.toNat_natCast, List.getD_eq_getElem?_getD, List.getD_eq_getElem?_getD, hxm.out, hxn.out]
                        exact congrArg Prod.fst hres.out
                      have hLr : Hid (Lits vars lr) := by have := resF_litsAny (v := (l.natAbs : Int)) hLm.out hLn.out; rw [hres.out] at this; exact this
                      have hst6 : Hid (trR known t y j4 (al2 ++ [lr]) (nk2 : Int) (ou2 ++ [((mN : Int), (nowN : Int), (l.natAbs : Int))]) = (f1, f2, f3)) := by
                        have := hst5.out
                        rw [hone.out, hrs.out, HTi.out.ko.p.len] at this
                        exact this
                      have hBn : Hid (∀ x ∈ xn, -1000000 ≤ x ∧ x ≤ 1000000) := fun x hx => by have := hLn.out.1 x hx; omega
                      have hBm : Hid (∀ x ∈ xm, -1000000 ≤ x ∧ x ≤ 1000000) := fun x hx => by have := hLm.out.1 x hx; omega
                      clear hxn hxm hLn hLm hone hst5 hrs HTi
                      refine wp_region_tail (fun w' => w'.cell? ⟨gK2, mN, none⟩ = some (.slice Xm qm dm) ∧ w'.cell? ⟨gK2, nowN, none⟩ = some (.slice Xn qn dn) ∧ w'.cell? ⟨b9, 0, none⟩ = some (.int .i64 (mN : Int)) ∧ w'.cell? ⟨b9, 1, none⟩ = some (.int .i64 (nowN : Int)) ∧ w'.cell? ⟨b9, 2, none⟩ = some (.int .i64 (l.natAbs : Int))) [] (by kernel_rfl) ?_
                      change wpAnyT _ _ _ _ _ _ _ _ _ wg.drew
                      rw [← hwd]
                      clear hwd
                      refine take0 (i := 0) (oi := _) (v := ?_) rfl (by kernel_rfl) (by kernel_rfl) (by kernel_rfl) (fun _ _ _ h => h) rfl (Or.inl ⟨by rfl, ?_⟩) (fun _ => hS) ?_
                      rotate_left
                      · intro w0; go_simp; with_reducible rfl
                      (try simp only [Act.put, List.setIfInBounds_toArray, List.set_cons_zero, List.set_cons_succ])
                      refine take0 (i := 1) (oi := _) (v := ?_) rfl (by kernel_rfl) (by kernel_rfl) (by kernel_rfl) (fun _ _ _ h => h) rfl (Or.inl ⟨by rfl, ?_⟩) (fun _ => hS) ?_
                      rotate_left
                      · intro w0; go_simp; with_reducible rfl
                      (try simp only [Act.put, List.setIfInBounds_toArray, List.set_cons_zero, List.set_cons_succ])
                      refine takeS (i := 2) (oi := _) (v := ?_) rfl (by kernel_rfl) (by kernel_rfl) (by kernel_rfl) (fun _ _ _ h => h) rfl (by kernel_rfl) (by kernel_rfl) (Or.inl ⟨by rfl, ?_⟩) hS ?_
                      rotate_left
                      · intro w0 hSw; (try dsimp only at hSw); go_simp; with_reducible rfl
                      (try simp only [Act.put, List.setIfInBounds_toArray, List.set_cons_zero, List.set_cons_succ])
                      refine take0 (i := 3) (oi := _) (v := ?_) rfl (by kernel_rfl) (by kernel_rfl) (by kernel_rfl) (fun _ _ _ h => h) rfl (Or.inl ⟨by rfl, ?_⟩) (fun _ => hS) ?_
                      rotate_left
                      · intro w0; go_simp; with_reducible rfl
                      (try simp only [Act.put, List.setIfInBounds_toArray, List.set_cons_zero, List.set_cons_succ])
                      refine takeS (i := 4) (oi := _) (v := ?_) rfl (by kernel_rfl) (by kernel_rfl) (by kernel_rfl) (fun _ _ _ h => h) rfl (by kernel_rfl) (by kernel_rfl) (Or.inl ⟨by rfl, ?_⟩) hS ?_
                      rotate_left
                      · intro w0 hSw; (try dsimp only at hSw); go_simp; with_reducible rfl
                      (try simp only [Act.put, List.setIfInBounds_toArray, List.set_cons_zero, List.set_cons_succ])
                      refine take0 (i := 5) (oi := _) (v := ?_) rfl (by kernel_rfl) (by kernel_rfl) (by kernel_rfl) (fun _ _ _ h => h) rfl (Or.inl ⟨by rfl, ?_⟩) (fun _ => hS) ?_
                      rotate_left
                      · intro w0; go_simp; with_reducible rfl
                      (try simp only [Act.put, List.setIfInBounds_toArray, List.set_cons_zero, List.set_cons_succ])
                      refine take0 (i := 6) (oi := _) (v := ?_) rfl (by kernel_rfl) (by kernel_rfl) (by kernel_rfl) (fun _ _ _ h => h) rfl (Or.inl ⟨by rfl, ?_⟩) (fun _ => hS) ?_
                      rotate_left
                      · intro w0; go_simp; with_reducible rfl
                      (try simp only [Act.put, List.setIfInBounds_toArray, List.set_cons_zero, List.set_cons_succ])
                      refine takeS (i := 7) (oi := _) (v := ?_) rfl (by kernel_rfl) (by kernel_rfl) (by kernel_rfl) (fun _ _ _ h => h) rfl (by kernel_rfl) (by kernel_rfl) (Or.inl ⟨by rfl, ?_⟩) hS ?_
                      rotate_left
                      · intro w0 hSw; (try dsimp only at hSw); go_simp; with_reducible rfl
                      (try simp only [Act.put, List.setIfInBounds_toArray, List.set_cons_zero, List.set_cons_succ])
                      refine take0 (i := 8) (oi := _) (v := ?_) rfl (by kernel_rfl) (by kernel_rfl) (by kernel_rfl) (fun _ _ _ h => h) rfl (Or.inl ⟨by rfl, ?_⟩) (fun _ => hS) ?_
                      rotate_left
                      · intro w0; go_simp; with_reducible rfl
                      (try simp only [Act.put, List.setIfInBounds_toArray, List.set_cons_zero, List.set_cons_succ])
                      refine takeS (i := 9) (oi := _) (v := ?_) rfl (by kernel_rfl) (by kernel_rfl) (by kernel_rfl) (fun _ _ _ h => h) rfl (by kernel_rfl) (by kernel_rfl) (Or.inl ⟨by rfl, ?_⟩) hS ?_
                      rotate_left
                      · intro w0 hSw; (try dsimp only at hSw); go_simp; with_reducible rfl
                      (try simp only [Act.put, List.setIfInBounds_toArray, List.set_cons_zero, List.set_cons_succ])
                      refine take0 (i := 10) (oi := _) (v := ?_) rfl (by kernel_rfl) (by kernel_rfl) (by kernel_rfl) (fun _ _ _ h => h) rfl (Or.inl ⟨by rfl, ?_⟩) (fun _ => hS) ?_
                      rotate_left
                      · intro w0; go_simp; with_reducible rfl
                      (try simp only [Act.put, List.setIfInBounds_toArray, List.set_cons_zero, List.set_cons_succ])
                      refine takeS (i := 11) (oi := _) (v := ?_) rfl (by kernel_rfl) (by kernel_rfl) (by kernel_rfl) (fun _ _ _ h => h) rfl (by kernel_rfl) (by kernel_rfl) (Or.inl ⟨by rfl, ?_⟩) hS ?_
                      rotate_left
                      · intro w0 hSw; (try dsimp only at hSw); go_simp; with_reducible rfl
                      (try simp only [Act.put, List.setIfInBounds_toArray, List.set_cons_zero, List.set_cons_succ])
                      refine oneT (i := 12) (by kernel_rfl) rfl (by rfl) (fun Kq hK => ?_)
                      go_simp
                      refine (resolved_ref Xm Xn qm dm qn dn xm xn (l.natAbs : Int) wi HIm.out HIn.out hBm.out hBn.out (by omega) (by omega) lr code hres).mono ?_
                      rintro e wj ⟨L2, nl2, cl2, rfl, ⟨hRi, hRo⟩, hbj⟩
                      have HRI := Lib.hid hRi
                      have HRO := Lib.hid hRo
                      have HBJ := Lib.hid (below_next HBI.out hbj)
                      have KJ := Lib.hid (KI.out.keep hbj)
                      have hWi : Hid (w5.heap.size ≤ wi.heap.size) := Nat.le_trans HW8.out HBI.out.size
                      have hSj : wj.cell? ⟨gK2, mN, none⟩ = some (.slice Xm qm dm) ∧ wj.cell? ⟨gK2, nowN, none⟩ = some (.slice Xn qn dn) ∧ wj.cell? ⟨b9, 0, none⟩ = some (.int .i64 (mN : Int)) ∧ wj.cell? ⟨b9, 1, none⟩ = some (.int .i64 (nowN : Int)) ∧ wj.cell? ⟨b9, 2, none⟩ = some (.int .i64 (l.natAbs : Int)) := ⟨keepBox hbj hS.1, keepBox hbj hS.2.1, keepBox hbj hS.2.2.1, keepBox hbj hS.2.2.2.1, keepBox hbj hS.2.2.2.2⟩
                      clear hRi hRo hbj HBI KI HIn HIm hBn hBm hres hS
                      refine hK _ _ (fun _ => hSj) ?_
                      clear hK
                      (try simp only [Act.put, List.setIfInBounds_toArray, List.set_cons_zero, List.set_cons_succ])
                      refine take0 (i := 13) (oi := _) (v := ?_) rfl (by kernel_rfl) (by kernel_rfl) (by kernel_rfl) (fun _ _ _ h => h) rfl (Or.inl ⟨by rfl, ?_⟩) (fun _ => hSj) ?_
                      rotate_left
                      · intro w0; go_simp; with_reducible rfl
                      (try simp only [Act.put, List.setIfInBounds_toArray, List.set_cons_zero, List.set_cons_succ])
                      refine take0 (i := 14) (oi := _) (v := ?_) rfl (by kernel_rfl) (by kernel_rfl) (by kernel_rfl) (fun _ _ _ h => h) rfl (Or.inl ⟨by rfl, ?_⟩) (fun _ => hSj) ?_
                      rotate_left
                      · intro w0; go_simp; with_reducible rfl
                      (try simp only [Act.put, List.setIfInBounds_toArray, List.set_cons_zero, List.set_cons_succ])
                      refine take0 (i := 15) (oi := _) (v := ?_) rfl (by kernel_rfl) (by kernel_rfl) (by kernel_rfl) (fun _ _ _ h => h) rfl (Or.inl ⟨by rfl, ?_⟩) (fun _ => hSj) ?_
                      rotate_left
                      · intro w0; go_simp; with_reducible rfl
                      (try simp only [Act.put, List.setIfInBounds_toArray, List.set_cons_zero, List.set_cons_succ])
                      refine take0 (i := 16) (oi := _) (v := ?_) rfl (by kernel_rfl) (by kernel_rfl) (by kernel_rfl) (fun _ _ _ h => h) rfl (Or.inl ⟨by rfl, ?_⟩) (fun _ => hSj) ?_
                      rotate_left
                      · intro w0; go_simp; with_reducible rfl
                      (try simp only [Act.put, List.setIfInBounds_toArray, List.set_cons_zero, List.set_cons_succ])
                      refine take0 (i := 17) (oi := _) (v := ?_) rfl (by kernel_rfl) (by kernel_rfl) (by kernel_rfl) (fun _ _ _ h => h) rfl (Or.inl ⟨by rfl, ?_⟩) (fun _ => hSj) ?_
                      rotate_left
                      · intro w0; go_simp; with_reducible rfl
                      (try simp only [Act.put, List.setIfInBounds_toArray, List.set_cons_zero, List.set_cons_succ])
                      refine doneT (by kernel_rfl) ?_ _
                      clear hSj zgk zb9
                      have HTj := Lib.hid (HT8.out.keep HBJ.out)
                      have HKj := Lib.hid (HK8.out.keep HBJ.out)
                      have HAj : Hid (Ints wj (some ⟨bL, offL, none⟩) nl4 cl4 t ∧ Ints wj (some ⟨bY, offY, none⟩) ny4 cy4 y ∧ Apart 3 wj 0 (some ⟨bL, offL, none⟩) ∧ Apart 3 wj 0 (some ⟨bY, offY, none⟩)) := ⟨HA8.out.1.keep HBJ.out, HA8.out.2.1.keep HBJ.out, HA8.out.2.2.1.keep HBJ.out, HA8.out.2.2.2.keep HBJ.out⟩
                      have HWj : Hid (w5.heap.size ≤ wj.heap.size) := Nat.le_trans HW8.out HBJ.out.size
                      have hnl2 := HRI.out.bd
                      have FR : Hid (blockOf L2 = none ∨ blockOf L2 ≠ blockOf (some ⟨gN, 0, none⟩)) := own_far HRO.out (fun q hq => by have h1 := hBN.out q hq; have h2 := hWi.out; omega)
                      have kc0 := KJ.out.cell 0
                      have kc1 := KJ.out.cell 1
                      have kc2 := KJ.out.cell 2
                      simp at kc0 kc1 kc2
                      have kf0 := KJ.out.frozen 0
                      have kf1 := KJ.out.frozen 1
                      have kf2 := KJ.out.frozen 2
                      have klt := KJ.out.lt
                      have hba : Below wj.heap.size wj (wj.alloc (.cells #[.int .i64 (mN : Int), .int .i64 (nowN : Int), .int .i64 (l.natAbs : Int)] 75)) := below_new _ _
                      have KN : Hid (Blk (wj.alloc (.cells #[.int .i64 (mN : Int), .int .i64 (nowN : Int), .int .i64 (l.natAbs : Int)] 75)) wj.heap.size 75 #[.int .i64 (mN : Int), .int .i64 (nowN : Int), .int .i64 (l.natAbs : Int)]) := Blk.new _ _ _
                      have HT1 := Lib.hid (HTj.out.keep hba)
                      have HK1 := Lib.hid (HKj.out.keep hba)
                      have HA1 : Hid (Ints (wj.alloc (.cells #[.int .i64 (mN : Int), .int .i64 (nowN : Int), .int .i64 (l.natAbs : Int)] 75)) (some ⟨bL, offL, none⟩) nl4 cl4 t ∧ Ints (wj.alloc (.cells #[.int .i64 (mN : Int), .int .i64 (nowN : Int), .int .i64 (l.natAbs : Int)] 75)) (some ⟨bY, offY, none⟩) ny4 cy4 y ∧ Apart 3 (wj.alloc (.cells #[.int .i64 (mN : Int), .int .i64 (nowN : Int), .int .i64 (l.natAbs : Int)] 75)) 0 (some ⟨bL, offL, none⟩) ∧ Apart 3 (wj.alloc (.cells #[.int .i64 (mN : Int), .int .i64 (nowN : Int), .int .i64 (l.natAbs : Int)] 75)) 0 (some ⟨bY, offY, none⟩)) := ⟨HAj.out.1.keep hba, HAj.out.2.1.keep hba, HAj.out.2.2.1.keep hba, HAj.out.2.2.2.keep hba⟩
                      have HR1 := Lib.hid (HRI.out.keep hba)
                      have HO1 := Lib.hid (HRO.out.keep hba)
                      have hz9 := HT1.out.bl.size
                      have hwz1 : Hid (w5.heap.size ≤ (wj.alloc (.cells #[.int .i64 (mN : Int), .int .i64 (nowN : Int), .int .i64 (l.natAbs : Int)] 75)).heap.size) := Nat.le_trans HWj.out hba.size
                      have hnoL : no2 ≤ 3000 := by omega
                      have hnowI : (nowN : Int) < (nk2 : Int) := by omega
                      have hmI : (mN : Int) < (nk2 : Int) := by omega
                      have hnk3 : nk2 ≤ 4000 := by omega
                      clear hba HT8 HK8 HA8 HW8 HBJ HTj HKj HAj HWj HRI HRO hWi KJ
                      go_wp2_with (first
                        | (at_builtin
                           refine wpList_append_res _ rfl (.tmp 158) (.tmp 160) 69 rfl w1.heap.size ires _ Try.underlying69 hires hs0 hs1 hs2 rfl O2 no2 co2 _ rfl HT1.out.oo wj.heap.size ((mN : Int), (nowN : Int), (l.natAbs : Int)) rfl (fun j u hu => by
                             have := KN.out.cell j
                             rw [this]
                             have hj : j < 3 := by have := (List.getElem?_eq_some_iff.1 hu).1; simpa [cells3] using this
                             match j, hj, hu with
                             | 0, _, hu => simpa [cells3] using hu
                             | 1, _, hu => simpa [cells3] using hu
                             | 2, _, hu => simpa [cells3] using hu) ⟨by unfold I64; simp only; omega, by unfold I64; simp only; omega, by unfold I64; simp only; omega⟩ (by simp only [maxLen]; omega) (by omega) hz9 ?_
                           intro O3 co3 wz hO3 hG3
                           have HT2 := Lib.hid (HT1.out.growO hO3 hG3)
                           have hty : ∀ q, blockOf O2 = some q → Typed 75 (wj.alloc (.cells #[.int .i64 (mN : Int), .int .i64 (nowN : Int), .int .i64 (l.natAbs : Int)] 75)) q := fun q hq => (HT1.out.oo.base hq).2
                           have HK2 : Hid (Blk wz bt 35 #[.slice (some ⟨bL, offL, none⟩) nl4 cl4, .slice (some ⟨bY, offY, none⟩) ny4 cy4, .int .i64 aN]) := blk_kept HK1.out hG3 hty (by decide)
                           have HA2 : Hid (Ints wz (some ⟨bL, offL, none⟩) nl4 cl4 t ∧ Ints wz (some ⟨bY, offY, none⟩) ny4 cy4 y ∧ Apart 3 wz 0 (some ⟨bL, offL, none⟩) ∧ Apart 3 wz 0 (some ⟨bY, offY, none⟩)) := two_kept HA1.out hG3 hty (by decide)
                           have HO2 := Lib.hid (HO1.out.keptT hG3 hty (by decide))
                           have HR2 := Lib.hid (HO2.out.ints (fun z hz => by have := hLr.out.1 z hz; unfold I64; omega))
                           have hba2 : Below wz.heap.size wz (wz.alloc (.cells #[.slice L2 nl2 cl2] 25)) := below_new _ _
                           have HT3 := Lib.hid (HT2.out.keep hba2)
                           have HK3 := Lib.hid (HK2.out.keep hba2)
                           have HA3 : Hid (Ints (wz.alloc (.cells #[.slice L2 nl2 cl2] 25)) (some ⟨bL, offL, none⟩) nl4 cl4 t ∧ Ints (wz.alloc (.cells #[.slice L2 nl2 cl2] 25)) (some ⟨bY, offY, none⟩) ny4 cy4 y ∧ Apart 3 (wz.alloc (.cells #[.slice L2 nl2 cl2] 25)) 0 (some ⟨bL, offL, none⟩) ∧ Apart 3 (wz.alloc (.cells #[.slice L2 nl2 cl2] 25)) 0 (some ⟨bY, offY, none⟩)) := ⟨HA2.out.1.keep hba2, HA2.out.2.1.keep hba2, HA2.out.2.2.1.keep hba2, HA2.out.2.2.2.keep hba2⟩
                           have HR3 := Lib.hid (HR2.out.keep hba2)
                           have HO3 := Lib.hid (HO2.out.keep hba2)
                           have hwz3 : Hid (w5.heap.size ≤ (wz.alloc (.cells #[.slice L2 nl2 cl2] 25)).heap.size) := Nat.le_trans (Nat.le_trans hwz1.out hG3.size) hba2.size
                           have HSS := Lib.hid (sl_one wz 25 (.slice L2 nl2 cl2) rfl)
                           have hz10 := HT3.out.bl.size
                           obtain ⟨vs, hv1, hv2, hv3⟩ := HT3.out.ko
                           have HV1 := Lib.hid hv1
                           have HV2 := Lib.hid hv2
                           have HV3 := Lib.hid hv3
                           clear hO3 hG3 hty hba2 HT2 HK2 HA2 HR2 HO2 HT1 HK1 HA1 HR1 HO1 hv1 hv2 hv3 KN hwz1 kc0 kc1 kc2 kf0 kf1 kf2 klt)
                        | (at_builtin
                           refine wpList_append_sl _ rfl (.tmp 162) (.tmp 164) _ rfl w1.heap.size 25 ir _ 24 Try.underlying22 hir hr0 hr1 hr2 rfl (some ⟨gK2, 0, none⟩) nk2 ck2 vs rfl HV1.out (some ⟨wz.heap.size, 0, none⟩) 1 1 _ rfl HSS.out (by simp [Value.oneCell']) (by simp only [maxLen]; omega) (by omega) hz10 ?_
                           intro K3 ck3 w6 hK3 hG4 hA4
                           have HT6 : Hid (UnG w1 w6 K3 (nk2 + 1) ck3 (some ⟨gN, 0, none⟩) i cn' O3 (no2 + 1) co3 (al2 ++ [lr]) known (ou2 ++ [((mN : Int), (nowN : Int), (l.natAbs : Int))])) := HT3.out.growK HV1.out HV2.out HV3.out HR3.out (Away.own HO3.out) (fun _ => FR.out) hK3 hG4
                           have hty : ∀ q, blockOf (some ⟨gK2, 0, none⟩) = some q → Typed 25 (wz.alloc (.cells #[.slice L2 nl2 cl2] 25)) q := fun q hq => (own_rows HV1.out (Nat.le_refl _) q hq).2
                           have HK6 : Hid (Blk w6 bt 35 #[.slice (some ⟨bL, offL, none⟩) nl4 cl4, .slice (some ⟨bY, offY, none⟩) ny4 cy4, .int .i64 aN]) := blk_kept HK3.out hG4 hty (by decide)
                           have HA6 : Hid (Ints w6 (some ⟨bL, offL, none⟩) nl4 cl4 t ∧ Ints w6 (some ⟨bY, offY, none⟩) ny4 cy4 y ∧ Apart 3 w6 0 (some ⟨bL, offL, none⟩) ∧ Apart 3 w6 0 (some ⟨bY, offY, none⟩)) := two_kept HA3.out hG4 hty (by decide)
                           have hwz6 : Hid (w5.heap.size ≤ w6.heap.size) := Nat.le_trans hwz3.out hG4.size
                           clear hK3 hG4 hA4 hty HT3 HK3 HA3 HR3 HO3 HV1 HV2 HV3 HSS))
                      have hno4' : no2 + 1 + j4 ≤ no + t.length := by omega
                      have HI9 : Hid ((∀ x ∈ al2 ++ [lr], Lits vars x) ∧ 0 ≤ (nk2 : Int) ∧ (nk2 : Int) < ((nk2 + 1 : Nat) : Int)) := ⟨fun x hx => by
                        rcases List.mem_append.1 hx with hx | hx
                        · exact hI4.out.1 x hx
                        · simp at hx; subst hx; exact hLr.out, by omega, by omega⟩
                      go_roundw
                      case rel => exact ⟨j4, nk2 + 1, ck3, no2 + 1, co3, K3, O3, al2 ++ [lr], ou2 ++ [((mN : Int), (nowN : Int), (l.natAbs : Int))], (nk2 : Int), by omega, hno4', by omega, by omega, by omega, rfl, rfl, by go_num, by go_num, HT6, HK6, HA6, hwz6, HI9, hst6⟩
                      case measure => simp [intOf] <;> omega
                  · go_simp
                    obtain ⟨w9, hw9⟩ : ∃ z : World, z = wd8.alloc (.cells #[.int .i64 0, .int .i64 0, .int .i64 0] 75) := ⟨_, rfl⟩
                    have hba : Below wd8.heap.size wd8 w9 := by rw [hw9]; exact below_new _ _
                    have KB9 : Hid (Blk w9 wd8.heap.size 75 #[.int .i64 0, .int .i64 0, .int .i64 0]) := by rw [hw9]; exact Blk.new _ _ _
                    have hS9 : w9.cell? ⟨bt, 1, none⟩ = some (.slice (some ⟨bY, offY, none⟩) ny4 cy4) ∧ w9.cell? ⟨bY, offY + j4, none⟩ = some (.int .i64 yN) ∧ w9.cell? ⟨gN, yN, none⟩ = some (.int .i64 (mN : Int)) := ⟨keepBox hba hS.1, keepBox hba hS.2.1, keepBox hba hS.2.2⟩
                    rw [← hw9]
                    have HBA := Lib.hid hba
                    clear hba hw9
                    refine hK _ _ (fun _ => hS9) ?_
                    clear hK
                    (try simp only [Act.put, List.setIfInBounds_toArray, List.set_cons_zero, List.set_cons_succ])
                    refine oneT (i := 10) (by kernel_rfl) rfl (by rfl) (fun Kq hK => ?_)
                    go_simp
                    refine (of_same l _ (by omega) (by omega)).mono ?_
                    rintro e wv ⟨rfl, hwv⟩
                    rw [hwv]
                    clear hwv wv
                    refine hK _ _ (fun _ => hS9) ?_
                    clear hK
                    (try simp only [Act.put, List.setIfInBounds_toArray, List.set_cons_zero, List.set_cons_succ])
                    refine take0 (i := 11) (oi := _) (v := ?_) rfl (by kernel_rfl) (by kernel_rfl) (by kernel_rfl) (fun _ _ _ h => h) rfl (Or.inl ⟨by rfl, ?_⟩) (fun _ => hS9) ?_
                    rotate_left
                    · intro w0; go_simp; with_reducible rfl
                    (try simp only [Act.put, List.setIfInBounds_toArray, List.set_cons_zero, List.set_cons_succ])
                    refine oneT (i := 13) (by kernel_rfl) rfl (by rfl) (fun Kq hK => ?_)
                    go_simp
                    obtain ⟨b9, hb9⟩ : ∃ q, q = wd8.heap.size := ⟨_, rfl⟩
                    have KT9 : Hid (Blk w9 b9 75 #[.int .i64 0, .int .i64 0, .int .i64 0]) := by rw [hb9]; exact KB9.out
                    have LE9 : Hid (wd8.heap.size ≤ b9) := by rw [hb9]; exact Nat.le_refl _
                    rw [← hb9]
                    clear hb9 KB9
                    have kc0 := KT9.out.cell 0
                    have kc1 := KT9.out.cell 1
                    have kc2 := KT9.out.cell 2
                    simp at kc0 kc1 kc2
                    have kf0 := KT9.out.frozen 0
                    have kf1 := KT9.out.frozen 1
                    have kf2 := KT9.out.frozen 2
                    have klt := KT9.out.lt
                    obtain ⟨wf, hwf⟩ : ∃ wf : World, wf = ((w9.setCell ⟨b9, 0, none⟩ (.int .i64 (mN : Int))).setCell ⟨b9, 1, none⟩ (.int .i64 (nowN : Int))).setCell ⟨b9, 2, none⟩ (.int .i64 (l.natAbs : Int)) := ⟨_, rfl⟩
                    have KF : Hid (Blk wf b9 75 #[.int .i64 (mN : Int), .int .i64 (nowN : Int), .int .i64 (l.natAbs : Int)]) := by
                      rw [hwf]
                      have := ((KT9.out.set_ 0 (.int .i64 (mN : Int))).set_ 1 (.int .i64 (nowN : Int))).set_ 2 (.int .i64 (l.natAbs : Int))
                      simpa [Hid] using this
                    have HB8 : Hid (Below wd8.heap.size wd8 wf) := by
                      rw [hwf]
                      exact ((HBA.out.setCell (p := ⟨b9, 0, none⟩) LE9.out _).setCell (p := ⟨b9, 1, none⟩) LE9.out _).setCell (p := ⟨b9, 2, none⟩) LE9.out _
                    go_simp
                    rw [← hwf]
                    refine hK _ _ (noT_no (by kernel_rfl)) ?_
                    clear hK
                    refine doneT (by kernel_rfl) ?_ _
                    have hSf : wf.cell? ⟨bt, 1, none⟩ = some (.slice (some ⟨bY, offY, none⟩) ny4 cy4) ∧ wf.cell? ⟨bY, offY + j4, none⟩ = some (.int .i64 yN) ∧ wf.cell? ⟨gN, yN, none⟩ = some (.int .i64 (mN : Int)) := ⟨keepBox HB8.out hS.1, keepBox HB8.out hS.2.1, keepBox HB8.out hS.2.2⟩
                    clear kc0 kc1 kc2 kf0 kf1 kf2 klt hwf KT9 HBA hS hS9
                    have kc0 := KF.out.cell 0
                    have kc1 := KF.out.cell 1
                    have kc2 := KF.out.cell 2
                    simp at kc0 kc1 kc2
                    have kf0 := KF.out.frozen 0
                    have kf1 := KF.out.frozen 1
                    have kf2 := KF.out.frozen 2
                    have klt := KF.out.lt
                    by_cases hl0 : l < 0
                    · have dl : decide (l < 0) = true := decide_eq_true hl0
                      go_wp2_with fail
                      obtain ⟨wx, hwd⟩ : ∃ z : World, z = wf.drew := ⟨_, rfl⟩
                      have hbd : Below wf.heap.size wf wx := by rw [hwd]; exact below_drewN _ 1
                      have HBX := Lib.hid (below_next HB8.out hbd)
                      have KX := Lib.hid (KF.out.keep hbd)
                      have hS : wx.cell? ⟨bt, 1, none⟩ = some (.slice (some ⟨bY, offY, none⟩) ny4 cy4) ∧ wx.cell? ⟨bY, offY + j4, none⟩ = some (.int .i64 yN) ∧ wx.cell? ⟨gN, yN, none⟩ = some (.int .i64 (mN : Int)) := ⟨keepBox hbd hSf.1, keepBox hbd hSf.2.1, keepBox hbd hSf.2.2⟩
                      have zbt9 := (cell_lt hS.1).1
                      have zcy9 := (cell_lt hS.2.1).1
                      have zcn9 := (cell_lt hS.2.2).1
                      clear hbd hSf HB8 KF kc0 kc1 kc2 kf0 kf1 kf2 klt
                      refine wp_region_tail (fun w' => w'.cell? ⟨bt, 1, none⟩ = some (.slice (some ⟨bY, offY, none⟩) ny4 cy4) ∧ w'.cell? ⟨bY, offY + j4, none⟩ = some (.int .i64 yN) ∧ w'.cell? ⟨gN, yN, none⟩ = some (.int .i64 (mN : Int))) [12] (by kernel_rfl) ?_
                      change wpAnyT _ _ _ _ _ _ _ _ _ wf.drew
                      rw [← hwd]
                      clear hwd
                      refine take0 (i := 0) (oi := _) (v := ?_) rfl (by kernel_rfl) (by kernel_rfl) (by kernel_rfl) (fun _ _ _ h => h) rfl (Or.inl ⟨by rfl, ?_⟩) (fun _ => hS) ?_
                      rotate_left
                      · intro w0; go_simp; with_reducible rfl
                      (try simp only [Act.put, List.setIfInBounds_toArray, List.set_cons_zero, List.set_cons_succ])
                      refine take0 (i := 1) (oi := _) (v := ?_) rfl (by kernel_rfl) (by kernel_rfl) (by kernel_rfl) (fun _ _ _ h => h) rfl (Or.inl ⟨by rfl, ?_⟩) (fun _ => hS) ?_
                      rotate_left
                      · intro w0; go_simp; with_reducible rfl
                      (try simp only [Act.put, List.setIfInBounds_toArray, List.set_cons_zero, List.set_cons_succ])
                      refine take0 (i := 2) (oi := _) (v := ?_) rfl (by kernel_rfl) (by kernel_rfl) (by kernel_rfl) (fun _ _ _ h => h) rfl (Or.inl ⟨by rfl, ?_⟩) (fun _ => hS) ?_
                      rotate_left
                      · intro w0; go_simp; with_reducible rfl
                      (try simp only [Act.put, List.setIfInBounds_toArray, List.set_cons_zero, List.set_cons_succ])
                      refine takeS (i := 3) (oi := _) (v := ?_) rfl (by kernel_rfl) (by kernel_rfl) (by kernel_rfl) (fun _ _ _ h => h) rfl (by kernel_rfl) (by kernel_rfl) (Or.inl ⟨by rfl, ?_⟩) hS ?_
                      rotate_left
                      · intro w0 hSw; (try dsimp only at hSw); go_simp; with_reducible rfl
                      (try simp only [Act.put, List.setIfInBounds_toArray, List.set_cons_zero, List.set_cons_succ])
                      refine take0 (i := 4) (oi := _) (v := ?_) rfl (by kernel_rfl) (by kernel_rfl) (by kernel_rfl) (fun _ _ _ h => h) rfl (Or.inl ⟨by rfl, ?_⟩) (fun _ => hS) ?_
                      rotate_left
                      · intro w0; go_simp; with_reducible rfl
                      (try simp only [Act.put, List.setIfInBounds_toArray, List.set_cons_zero, List.set_cons_succ])
                      refine take0 (i := 5) (oi := _) (v := ?_) rfl (by kernel_rfl) (by kernel_rfl) (by kernel_rfl) (fun _ _ _ h => h) rfl (Or.inl ⟨by rfl, ?_⟩) (fun _ => hS) ?_
                      rotate_left
                      · intro w0; go_simp; with_reducible rfl
                      (try simp only [Act.put, List.setIfInBounds_toArray, List.set_cons_zero, List.set_cons_succ])
                      refine takeS (i := 6) (oi := _) (v := ?_) rfl (by kernel_rfl) (by kernel_rfl) (by kernel_rfl) (fun _ _ _ h => h) rfl (by kernel_rfl) (by kernel_rfl) (Or.inl ⟨by rfl, ?_⟩) hS ?_
                      rotate_left
                      · intro w0 hSw; (try dsimp only at hSw); go_simp; with_reducible rfl
                      (try simp only [Act.put, List.setIfInBounds_toArray, List.set_cons_zero, List.set_cons_succ])
                      refine take0 (i := 7) (oi := _) (v := ?_) rfl (by kernel_rfl) (by kernel_rfl) (by kernel_rfl) (fun _ _ _ h => h) rfl (Or.inl ⟨by rfl, ?_⟩) (fun _ => hS) ?_
                      rotate_left
                      · intro w0; go_simp; with_reducible rfl
                      (try simp only [Act.put, List.setIfInBounds_toArray, List.set_cons_zero, List.set_cons_succ])
                      refine takeS (i := 8) (oi := _) (v := ?_) rfl (by kernel_rfl) (by kernel_rfl) (by kernel_rfl) (fun _ _ _ h => h) rfl (by kernel_rfl) (by kernel_rfl) (Or.inl ⟨by rfl, ?_⟩) hS ?_
                      rotate_left
                      · intro w0 hSw; (try dsimp only at hSw); go_simp; with_reducible rfl
                      (try simp only [Act.put, List.setIfInBounds_toArray, List.set_cons_zero, List.set_cons_succ])
                      refine take0 (i := 9) (oi := _) (v := ?_) rfl (by kernel_rfl) (by kernel_rfl) (by kernel_rfl) (fun _ _ _ h => h) rfl (Or.inl ⟨by rfl, ?_⟩) (fun _ => hS) ?_
                      rotate_left
                      · intro w0; go_simp; with_reducible rfl
                      (try simp only [Act.put, List.setIfInBounds_toArray, List.set_cons_zero, List.set_cons_succ])
                      refine oneT (i := 10) (by kernel_rfl) rfl (by rfl) (fun Kq hK => ?_)
                      go_simp
                      refine (of_same l _ (by omega) (by omega)).mono ?_
                      rintro e wv ⟨rfl, hwv⟩
                      rw [hwv]
                      clear hwv wv
                      refine hK _ _ (fun _ => hS) ?_
                      clear hK
                      (try simp only [Act.put, List.setIfInBounds_toArray, List.set_cons_zero, List.set_cons_succ])
                      refine take0 (i := 11) (oi := _) (v := ?_) rfl (by kernel_rfl) (by kernel_rfl) (by kernel_rfl) (fun _ _ _ h => h) rfl (Or.inl ⟨by rfl, ?_⟩) (fun _ => hS) ?_
                      rotate_left
                      · intro w0; go_simp; with_reducible rfl
                      (try simp only [Act.put, List.setIfInBounds_toArray, List.set_cons_zero, List.set_cons_succ])
                      refine oneT (i := 12) (by kernel_rfl) rfl (by rfl) (fun Kq hK => ?_)
                      have kc0 := KX.out.cell 0
                      have kc1 := KX.out.cell 1
                      have kc2 := KX.out.cell 2
                      simp at kc0 kc1 kc2
                      have kf0 := KX.out.frozen 0
                      have kf1 := KX.out.frozen 1
                      have kf2 := KX.out.frozen 2
                      have klt := KX.out.lt
                      go_simp
                      obtain ⟨wg, hwg⟩ : ∃ z : World, z = ((wx.setCell ⟨b9, 0, none⟩ (.int .i64 (nowN : Int))).setCell ⟨b9, 1, none⟩ (.int .i64 (mN : Int))).setCell ⟨b9, 2, none⟩ (.int .i64 (l.natAbs : Int)) := ⟨_, rfl⟩
                      have KG : Hid (Blk wg b9 75 #[.int .i64 (nowN : Int), .int .i64 (mN : Int), .int .i64 (l.natAbs : Int)]) := by
                        rw [hwg]
                        have := ((KX.out.set_ 0 (.int .i64 (nowN : Int))).set_ 1 (.int .i64 (mN : Int))).set_ 2 (.int .i64 (l.natAbs : Int))
                        simpa [Hid] using this
                      have HBG : Hid (Below wd8.heap.size wd8 wg) := by
                        rw [hwg]
                        exact ((HBX.out.setCell (p := ⟨b9, 0, none⟩) LE9.out _).setCell (p := ⟨b9, 1, none⟩) LE9.out _).setCell (p := ⟨b9, 2, none⟩) LE9.out _
                      rw [← hwg]
                      refine hK _ _ (noT_no (by kernel_rfl)) ?_
                      clear hK
                      refine doneT (by kernel_rfl) ?_ _
                      have hrs : Hid (rsT l nowN mN = ((nowN : Int), (mN : Int), (l.natAbs : Int))) := by show _ = _; unfold rsT; rw [if_pos (by omega)]
                      clear kc0 kc1 kc2 kf0 kf1 kf2 klt hwg KX HBX hS zbt9 zcy9 zcn9
                      go_wp2_with fail
                      obtain ⟨wi, hwd⟩ : ∃ z : World, z = wg.drew := ⟨_, rfl⟩
                      have hbd : Below wg.heap.size wg wi := by rw [hwd]; exact below_drewN _ 1
                      have HBI := Lib.hid (below_next HBG.out hbd)
                      have KI := Lib.hid (KG.out.keep hbd)
                      clear hbd HBG KG
                      have HTi := Lib.hid (HT8.out.keep HBI.out)
                      obtain ⟨_, Xn, qn, dn, xn, hE1, _, _, hcn, _, hIn, _, hxn⟩ := HTi.out.ko.p.round hnowl
                      cases hE1
                      obtain ⟨_, Xm, qm, dm, xm, hE2, _, _, hcm, _, hIm, _, hxm⟩ := HTi.out.ko.p.round hmk
                      cases hE2
                      have HIn := Lib.hid hIn
                      have HIm := Lib.hid hIm
                      have kc0 := KI.out.cell 0
                      have kc1 := KI.out.cell 1
                      have kc2 := KI.out.cell 2
                      simp at kc0 kc1 kc2
                      have hS : wi.cell? ⟨gK2, nowN, none⟩ = some (.slice Xn qn dn) ∧ wi.cell? ⟨gK2, mN, none⟩ = some (.slice Xm qm dm) ∧ wi.cell? ⟨b9, 0, none⟩ = some (.int .i64 (nowN : Int)) ∧ wi.cell? ⟨b9, 1, none⟩ = some (.int .i64 (mN : Int)) ∧ wi.cell? ⟨b9, 2, none⟩ = some (.int .i64 (l.natAbs : Int)) := ⟨hcn, hcm, kc0, kc1, kc2⟩
                      clear kc0 kc1 kc2 hcn hcm hIn hIm
                      have zgk := (cell_lt hS.1).1
                      have zb9 := (cell_lt hS.2.2.1).1
                      have hLn : Hid (Lits vars xn) := hI4.out.1 _ (List.mem_of_getElem? hxn.out)
                      have hLm : Hid (Lits vars xm) := hI4.out.1 _ (List.mem_of_getElem? hxm.out)
                      have hqn : qn ≤ 1000 := by have := hLn.out.len_le v0; rw [HIn.out.len] at this; omega
                      have hqm : qm ≤ 1000 := by have := hLm.out.len_le v0; rw [HIm.out.len] at this; omega
                      obtain ⟨lr, code, hres⟩ : ∃ lr code, Hid (resF xn xm (l.natAbs : Int) = (lr, code)) := ⟨_, _, rfl⟩
                      have hone : Hid ((oneR al2 (rsT l nowN mN)).1 = lr) := by
                        show _ = _
                        rw [hrs.out]
                        show (resF (al2.getD (nowN : Int).toNat []) (al2.getD (mN : Int).toNat []) (l.natAbs : Int)).1 = lr
                        rw [Int.toNat_natCast, Int.toNat_natCast, List.getD_eq_getElem?_getD, List.getD_eq_getElem?_getD, hxn.out, hxm.out]
                        exact congrArg Prod.fst hres.out
                      have hLr : Hid (Lits vars lr) := by have := resF_litsAny (v := (l.natAbs : Int)) hLn.out hLm.out; rw [hres.out] at this; exact this
                      have hst6 : Hid (trR known t y j4 (al2 ++ [lr]) (nk2 : Int) (ou2 ++ [((nowN : Int), (mN : Int), (l.natAbs : Int))]) = (f1, f2, f3)) := by
                        have := hst5.out
                        rw [hone.out, hrs.out, HTi.out.ko.p.len] at this
                        exact this
                      have hBn : Hid (∀ x ∈ xn, -1000000 ≤ x ∧ x ≤ 1000000) := fun x hx => by have := hLn.out.1 x hx; omega
                      have hBm : Hid (∀ x ∈ xm, -1000000 ≤ x ∧ x ≤ 1000000) := fun x hx => by have := hLm.out.1 x hx; omega
                      clear hxn hxm hLn hLm hone hst5 hrs HTi
                      refine wp_region_tail (fun w' => w'.cell? ⟨gK2, nowN, none⟩ = some (.slice Xn qn dn) ∧ w'.cell? ⟨gK2, mN, none⟩ = some (.slice Xm qm dm) ∧ w'.cell? ⟨b9, 0, none⟩ = some (.int .i64 (nowN : Int)) ∧ w'.cell? ⟨b9, 1, none⟩ = some (.int .i64 (mN : Int)) ∧ w'.cell? ⟨b9, 2, none⟩ = some (.int .i64 (l.natAbs : Int))) [] (by kernel_rfl) ?_
                      change wpAnyT _ _ _ _ _ _ _ _ _ wg.drew
                      rw [← hwd]
                      clear hwd
                      refine take0 (i := 0) (oi := _) (v := ?_) rfl (by kernel_rfl) (by kernel_rfl) (by kernel_rfl) (fun _ _ _ h => h) rfl (Or.inl ⟨by rfl, ?_⟩) (fun _ => hS) ?_
                      rotate_left
                      · intro w0; go_simp; with_reducible rfl
                      (try simp only [Act.put, List.setIfInBounds_toArray, List.set_cons_zero, List.set_cons_succ])
                      refine take0 (i := 1) (oi := _) (v := ?_) rfl (by kernel_rfl) (by kernel_rfl) (by kernel_rfl) (fun _ _ _ h => h) rfl (Or.inl ⟨by rfl, ?_⟩) (fun _ => hS) ?_
                      rotate_left
                      · intro w0; go_simp; with_reducible rfl
                      (try simp only [Act.put, List.setIfInBounds_toArray, List.set_cons_zero, List.set_cons_succ])
                      refine takeS (i := 2) (oi := _) (v := ?_) rfl (by kernel_rfl) (by kernel_rfl) (by kernel_rfl) (fun _ _ _ h => h) rfl (by kernel_rfl) (by kernel_rfl) (Or.inl ⟨by rfl, ?_⟩) hS ?_
                      rotate_left
                      · intro w0 hSw; (try dsimp only at hSw); go_simp; with_reducible rfl
                      (try simp only [Act.put, List.setIfInBounds_toArray, List.set_cons_zero, List.set_cons_succ])
                      refine take0 (i := 3) (oi := _) (v := ?_) rfl (by kernel_rfl) (by kernel_rfl) (by kernel_rfl) (fun _ _ _ h => h) rfl (Or.inl ⟨by rfl, ?_⟩) (fun _ => hS) ?_
                      rotate_left
                      · intro w0; go_simp; with_reducible rfl
                      (try simp only [Act.put, List.setIfInBounds_toArray, List.set_cons_zero, List.set_cons_succ])
                      refine takeS (i := 4) (oi := _) (v := ?_) rfl (by kernel_rfl) (by kernel_rfl) (by kernel_rfl) (fun _ _ _ h => h) rfl (by kernel_rfl) (by kernel_rfl) (Or.inl ⟨by rfl, ?_⟩) hS ?_
                      rotate_left
                      · intro w0 hSw; (try dsimp only at hSw); go_simp; with_reducible rfl
                      (try simp only [Act.put, List.setIfInBounds_toArray, List.set_cons_zero, List.set_cons_succ])
                      refine take0 (i := 5) (oi := _) (v := ?_) rfl (by kernel_rfl) (by kernel_rfl) (by kernel_rfl) (fun _ _ _ h => h) rfl (Or.inl ⟨by rfl, ?_⟩) (fun _ => hS) ?_
                      rotate_left
                      · intro w0; go_simp; with_reducible rfl
                      (try simp only [Act.put, List.setIfInBounds_toArray, List.set_cons_zero, List.set_cons_succ])
                      refine take0 (i := 6) (oi := _) (v := ?_) rfl (by kernel_rfl) (by kernel_rfl) (by kernel_rfl) (fun _ _ _ h => h) rfl (Or.inl ⟨by rfl, ?_⟩) (fun _ => hS) ?_
                      rotate_left
                      · intro w0; go_simp; with_reducible rfl
                      (try simp only [Act.put, List.setIfInBounds_toArray, List.set_cons_zero, List.set_cons_succ])
                      refine takeS (i := 7) (oi := _) (v := ?_) rfl (by kernel_rfl) (by kernel_rfl) (by kernel_rfl) (fun _ _ _ h => h) rfl (by kernel_rfl) (by kernel_rfl) (Or.inl ⟨by rfl, ?_⟩) hS ?_
                      rotate_left
                      · intro w0 hSw; (try dsimp only at hSw); go_simp; with_reducible rfl
                      (try simp only [Act.put, List.setIfInBounds_toArray, List.set_cons_zero, List.set_cons_succ])
                      refine take0 (i := 8) (oi := _) (v := ?_) rfl (by kernel_rfl) (by kernel_rfl) (by kernel_rfl) (fun _ _ _ h => h) rfl (Or.inl ⟨by rfl, ?_⟩) (fun _ => hS) ?_
                      rotate_left
                      · intro w0; go_simp; with_reducible rfl
                      (try simp only [Act.put, List.setIfInBounds_toArray, List.set_cons_zero, List.set_cons_succ])
                      refine takeS (i := 9) (oi := _) (v := ?_) rfl (by kernel_rfl) (by kernel_rfl) (by kernel_rfl) (fun _ _ _ h => h) rfl (by kernel_rfl) (by kernel_rfl) (Or.inl ⟨by rfl, ?_⟩) hS ?_
                      rotate_left
                      · intro w0 hSw; (try dsimp only at hSw); go_simp; with_reducible rfl
                      (try simp only [Act.put, List.setIfInBounds_toArray, List.set_cons_zero, List.set_cons_succ])
                      refine take0 (i := 10) (oi := _) (v := ?_) rfl (by kernel_rfl) (by kernel_rfl) (by kernel_rfl) (fun _ _ _ h => h) rfl (Or.inl ⟨by rfl, ?_⟩) (fun _ => hS) ?_
                      rotate_left
                      · intro w0; go_simp; with_reducible rfl
                      (try simp only [Act.put, List.setIfInBounds_toArray, List.set_cons_zero, List.set_cons_succ])
                      refine takeS (i := 11) (oi := _) (v := ?_) rfl (by kernel_rfl) (by kernel_rfl) (by kernel_rfl) (fun _ _ _ h => h) rfl (by kernel_rfl) (by kernel_rfl) (Or.inl ⟨by rfl, ?_⟩) hS ?_
                      rotate_left
                      · intro w0 hSw; (try dsimp only at hSw); go_simp; with_reducible rfl
                      (try simp only [Act.put, List.setIfInBounds_toArray, List.set_cons_zero, List.set_cons_succ])
                      refine oneT (i := 12) (by kernel_rfl) rfl (by rfl) (fun Kq hK => ?_)
                      go_simp
                      refine (resolved_ref Xn Xm qn dn qm dm xn xm (l.natAbs : Int) wi HIn.out HIm.out hBn.out hBm.out (by omega) (by omega) lr code hres).mono ?_
                      rintro e wj ⟨L2, nl2, cl2, rfl, ⟨hRi, hRo⟩, hbj⟩
                      have HRI := Lib.hid hRi
                      have HRO := Lib.hid hRo
                      have HBJ := Lib.hid (below_next HBI.out hbj)
                      have KJ := Lib.hid (KI.out.keep hbj)
                      have hWi : Hid (w5.heap.size ≤ wi.heap.size) := Nat.le_trans HW8.out HBI.out.size
                      have hSj : wj.cell? ⟨gK2, nowN, none⟩ = some (.slice Xn qn dn) ∧ wj.cell? ⟨gK2, mN, none⟩ = some (.slice Xm qm dm) ∧ wj.cell? ⟨b9, 0, none⟩ = some (.int .i64 (nowN : Int)) ∧ wj.cell? ⟨b9, 1, none⟩ = some (.int .i64 (mN : Int)) ∧ wj.cell? ⟨b9, 2, none⟩ = some (.int .i64 (l.natAbs : Int)) := ⟨keepBox hbj hS.1, keepBox hbj hS.2.1, keepBox hbj hS.2.2.1, keepBox hbj hS.2.2.2.1, keepBox hbj hS.2.2.2.2⟩
                      clear hRi hRo hbj HBI KI HIn HIm hBn hBm hres hS
                      refine hK _ _ (fun _ => hSj) ?_
                      clear hK
                      (try simp only [Act.put, List.setIfInBounds_toArray, List.set_cons_zero, List.set_cons_succ])
                      refine take0 (i := 13) (oi := _) (v := ?_) rfl (by kernel_rfl) (by kernel_rfl) (by kernel_rfl) (fun _ _ _ h => h) rfl (Or.inl ⟨by rfl, ?_⟩) (fun _ => hSj) ?_
                      rotate_left
                      · intro w0; go_simp; with_reducible rfl
                      (try simp only [Act.put, List.setIfInBounds_toArray, List.set_cons_zero, List.set_cons_succ])
                      refine take0 (i := 14) (oi := _) (v := ?_) rfl (by kernel_rfl) (by kernel_rfl) (by kernel_rfl) (fun _ _ _ h => h) rfl (Or.inl ⟨by rfl, ?_⟩) (fun _ => hSj) ?_
                      rotate_left
                      · intro w0; go_simp; with_reducible rfl
                      (try simp only [Act.put, List.setIfInBounds_toArray, List.set_cons_zero, List.set_cons_succ])
                      refine take0 (i := 15) (oi := _) (v := ?_) rfl (by kernel_rfl) (by kernel_rfl) (by kernel_rfl) (fun _ _ _ h => h) rfl (Or.inl ⟨by rfl, ?_⟩) (fun _ => hSj) ?_
                      rotate_left
                      · intro w0; go_simp; with_reducible rfl
                      (try simp only [Act.put, List.setIfInBounds_toArray, List.set_cons_zero, List.set_cons_succ])
                      refine take0 (i := 16) (oi := _) (v := ?_) rfl (by kernel_rfl) (by kernel_rfl) (by kernel_rfl) (fun _ _ _ h => h) rfl (Or.inl ⟨by rfl, ?_⟩) (fun _ => hSj) ?_
                      rotate_left
                      · intro w0; go_simp; with_reducible rfl
                      (try simp only [Act.put, List.setIfInBounds_toArray, List.set_cons_zero, List.set_cons_succ])
                      refine take0 (i := 17) (oi := _) (v := ?_) rfl (by kernel_rfl) (by kernel_rfl) (by kernel_rfl) (fun _ _ _ h => h) rfl (Or.inl ⟨by rfl, ?_⟩) (fun _ => hSj) ?_
                      rotate_left
                      · intro w0; go_simp; with_reducible rfl
                      (try simp only [Act.put, List.setIfInBounds_toArray, List.set_cons_zero, List.set_cons_succ])
                      refine doneT (by kernel_rfl) ?_ _
                      clear hSj zgk zb9
                      have HTj := Lib.hid (HT8.out.keep HBJ.out)
                      have HKj := Lib.hid (HK8.out.keep HBJ.out)
                      have HAj : Hid (Ints wj (some ⟨bL, offL, none⟩) nl4 cl4 t ∧ Ints wj (some ⟨bY, offY, none⟩) ny4 cy4 y ∧ Apart 3 wj 0 (some ⟨bL, offL, none⟩) ∧ Apart 3 wj 0 (some ⟨bY, offY, none⟩)) := ⟨HA8.out.1.keep HBJ.out, HA8.out.2.1.keep HBJ.out, HA8.out.2.2.1.keep HBJ.out, HA8.out.2.2.2.keep HBJ.out⟩
                      have HWj : Hid (w5.heap.size ≤ wj.heap.size) := Nat.le_trans HW8.out HBJ.out.size
                      have hnl2 := HRI.out.bd
                      have FR : Hid (blockOf L2 = none ∨ blockOf L2 ≠ blockOf (some ⟨gN, 0, none⟩)) := own_far HRO.out (fun q hq => by have h1 := hBN.out q hq; have h2 := hWi.out; omega)
                      have kc0 := KJ.out.cell 0
                      have kc1 := KJ.out.cell 1
                      have kc2 := KJ.out.cell 2
                      simp at kc0 kc1 kc2
                      have kf0 := KJ.out.frozen 0
                      have kf1 := KJ.out.frozen 1
                      have kf2 := KJ.out.frozen 2
                      have klt := KJ.out.lt
                      have hba : Below wj.heap.size wj (wj.alloc (.cells #[.int .i64 (nowN : Int), .int .i64 (mN : Int), .int .i64 (l.natAbs : Int)] 75)) := below_new _ _
                      have KN : Hid (Blk (wj.alloc (.cells #[.int .i64 (nowN : Int), .int .i64 (mN : Int), .int .i64 (l.natAbs : Int)] 75)) wj.heap.size 75 #[.int .i64 (nowN : Int), .int .i64 (mN : Int), .int .i64 (l.natAbs : Int)]) := Blk.new _ _ _
                      have HT1 := Lib.hid (HTj.out.keep hba)
                      have HK1 := Lib.hid (HKj.out.keep hba)
                      have HA1 : Hid (Ints (wj.alloc (.cells #[.int .i64 (nowN : Int), .int .i64 (mN : Int), .int .i64 (l.natAbs : Int)] 75)) (some ⟨bL, offL, none⟩) nl4 cl4 t ∧ Ints (wj.alloc (.cells #[.int .i64 (nowN : Int), .int .i64 (mN : Int), .int .i64 (l.natAbs : Int)] 75)) (some ⟨bY, offY, none⟩) ny4 cy4 y ∧ Apart 3 (wj.alloc (.cells #[.int .i64 (nowN : Int), .int .i64 (mN : Int), .int .i64 (l.natAbs : Int)] 75)) 0 (some ⟨bL, offL, none⟩) ∧ Apart 3 (wj.alloc (.cells #[.int .i64 (nowN : Int), .int .i64 (mN : Int), .int .i64 (l.natAbs : Int)] 75)) 0 (some ⟨bY, offY, none⟩)) := ⟨HAj.out.1.keep hba, HAj.out.2.1.keep hba, HAj.out.2.2.1.keep hba, HAj.out.2.2.2.keep hba⟩
                      have HR1 := Lib.hid (HRI.out.keep hba)
                      have HO1 := Lib.hid (HRO.out.keep hba)
                      have hz9 := HT1.out.bl.size
                      have hwz1 : Hid (w5.heap.size ≤ (wj.alloc (.cells #[.int .i64 (nowN : Int), .int .i64 (mN : Int), .int .i64 (l.natAbs : Int)] 75)).heap.size) := Nat.le_trans HWj.out hba.size
                      have hnoL : no2 ≤ 3000 := by omega
                      have hnowI : (nowN : Int) < (nk2 : Int) := by omega
                      have hmI : (mN : Int) < (nk2 : Int) := by omega
                      have hnk3 : nk2 ≤ 4000 := by omega
                      clear hba HT8 HK8 HA8 HW8 HBJ HTj HKj HAj HWj HRI HRO hWi KJ
                      go_wp2_with (first
                        | (at_builtin
                           refine wpList_append_res _ rfl (.tmp 158) (.tmp 160) 69 rfl w1.heap.size ires _ Try.underlying69 hires hs0 hs1 hs2 rfl O2 no2 co2 _ rfl HT1.out.oo wj.heap.size ((nowN : Int), (mN : Int), (l.natAbs : Int)) rfl (fun j u hu => by
                             have := KN.out.cell j
                             rw [this]
                             have hj : j < 3 := by have := (List.getElem?_eq_some_iff.1 hu).1; simpa [cells3] using this
                             match j, hj, hu with
                             | 0, _, hu => simpa [cells3] using hu
                             | 1, _, hu => simpa [cells3] using hu
                             | 2, _, hu => simpa [cells3] using hu) ⟨by unfold I64; simp only; omega, by unfold I64; simp only; omega, by unfold I64; simp only; omega⟩ (by simp only [maxLen]; omega) (by omega) hz9 ?_
                           intro O3 co3 wz hO3 hG3
                           have HT2 := Lib.hid (HT1.out.growO hO3 hG3)
                           have hty : ∀ q, blockOf O2 = some q → Typed 75 (wj.alloc (.cells #[.int .i64 (nowN : Int), .int .i64 (mN : Int), .int .i64 (l.natAbs : Int)] 75)) q := fun q hq => (HT1.out.oo.base hq).2
                           have HK2 : Hid (Blk wz bt 35 #[.slice (some ⟨bL, offL, none⟩) nl4 cl4, .slice (some ⟨bY, offY, none⟩) ny4 cy4, .int .i64 aN]) := blk_kept HK1.out hG3 hty (by decide)
                           have HA2 : Hid (Ints wz (some ⟨bL, offL, none⟩) nl4 cl4 t ∧ Ints wz (some ⟨bY, offY, none⟩) ny4 cy4 y ∧ Apart 3 wz 0 (some ⟨bL, offL, none⟩) ∧ Apart 3 wz 0 (some ⟨bY, offY, none⟩)) := two_kept HA1.out hG3 hty (by decide)
                           have HO2 := Lib.hid (HO1.out.keptT hG3 hty (by decide))
                           have HR2 := Lib.hid (HO2.out.ints (fun z hz => by have := hLr.out.1 z hz; unfold I64; omega))
                           have hba2 : Below wz.heap.size wz (wz.alloc (.cells #[.slice L2 nl2 cl2] 25)) := below_new _ _
                           have HT3 := Lib.hid (HT2.out.keep hba2)
                           have HK3 := Lib.hid (HK2.out.keep hba2)
                           have HA3 : Hid (Ints (wz.alloc (.cells #[.slice L2 nl2 cl2] 25)) (some ⟨bL, offL, none⟩) nl4 cl4 t ∧ Ints (wz.alloc (.cells #[.slice L2 nl2 cl2] 25)) (some ⟨bY, offY, none⟩) ny4 cy4 y ∧ Apart 3 (wz.alloc (.cells #[.slice L2 nl2 cl2] 25)) 0 (some ⟨bL, offL, none⟩) ∧ Apart 3 (wz.alloc (.cells #[.slice L2 nl2 cl2] 25)) 0 (some ⟨bY, offY, none⟩)) := ⟨HA2.out.1.keep hba2, HA2.out.2.1.keep hba2, HA2.out.2.2.1.keep hba2, HA2.out.2.2.2.keep hba2⟩
                           have HR3 := Lib.hid (HR2.out.keep hba2)
                           have HO3 := Lib.hid (HO2.out.keep hba2)
                           have hwz3 : Hid (w5.heap.size ≤ (wz.alloc (.cells #[.slice L2 nl2 cl2] 25)).heap.size) := Nat.le_trans (Nat.le_trans hwz1.out hG3.size) hba2.size
                           have HSS := Lib.hid (sl_one wz 25 (.slice L2 nl2 cl2) rfl)
                           have hz10 := HT3.out.bl.size
                           obtain ⟨vs, hv1, hv2, hv3⟩ := HT3.out.ko
                           have HV1 := Lib.hid hv1
                           have HV2 := Lib.hid hv2
                           have HV3 := Lib.hid hv3
                           clear hO3 hG3 hty hba2 HT2 HK2 HA2 HR2 HO2 HT1 HK1 HA1 HR1 HO1 hv1 hv2 hv3 KN hwz1 kc0 kc1 kc2 kf0 kf1 kf2 klt)
                        | (at_builtin
                           refine wpList_append_sl _ rfl (.tmp 162) (.tmp 164) _ rfl w1.heap.size 25 ir _ 24 Try.underlying22 hir hr0 hr1 hr2 rfl (some ⟨gK2, 0, none⟩) nk2 ck2 vs rfl HV1.out (some ⟨wz.heap.size, 0, none⟩) 1 1 _ rfl HSS.out (by simp [Value.oneCell']) (by simp only [maxLen]; omega) (by omega) hz10 ?_
                           intro K3 ck3 w6 hK3 hG4 hA4
                           have HT6 : Hid (UnG w1 w6 K3 (nk2 + 1) ck3 (some ⟨gN, 0, none⟩) i cn' O3 (no2 + 1) co3 (al2 ++ [lr]) known (ou2 ++ [((nowN : Int), (mN : Int), (l.natAbs : Int))])) := HT3.out.growK HV1.out HV2.out HV3.out HR3.out (Away.own HO3.out) (fun _ => FR.out) hK3 hG4
                           have hty : ∀ q, blockOf (some ⟨gK2, 0, none⟩) = some q → Typed 25 (wz.alloc (.cells #[.slice L2 nl2 cl2] 25)) q := fun q hq => (own_rows HV1.out (Nat.le_refl _) q hq).2
                           have HK6 : Hid (Blk w6 bt 35 #[.slice (some ⟨bL, offL, none⟩) nl4 cl4, .slice (some ⟨bY, offY, none⟩) ny4 cy4, .int .i64 aN]) := blk_kept HK3.out hG4 hty (by decide)
                           have HA6 : Hid (Ints w6 (some ⟨bL, offL, none⟩) nl4 cl4 t ∧ Ints w6 (some ⟨bY, offY, none⟩) ny4 cy4 y ∧ Apart 3 w6 0 (some ⟨bL, offL, none⟩) ∧ Apart 3 w6 0 (some ⟨bY, offY, none⟩)) := two_kept HA3.out hG4 hty (by decide)
                           have hwz6 : Hid (w5.heap.size ≤ w6.heap.size) := Nat.le_trans hwz3.out hG4.size
                           clear hK3 hG4 hA4 hty HT3 HK3 HA3 HR3 HO3 HV1 HV2 HV3 HSS))
                      have hno4' : no2 + 1 + j4 ≤ no + t.length := by omega
                      have HI9 : Hid ((∀ x ∈ al2 ++ [lr], Lits vars x) ∧ 0 ≤ (nk2 : Int) ∧ (nk2 : Int) < ((nk2 + 1 : Nat) : Int)) := ⟨fun x hx => by
                        rcases List.mem_append.1 hx with hx | hx
                        · exact hI4.out.1 x hx
                        · simp at hx; subst hx; exact hLr.out, by omega, by omega⟩
                      go_roundw
                      case rel => exact ⟨j4, nk2 + 1, ck3, no2 + 1, co3, K3, O3, al2 ++ [lr], ou2 ++ [((nowN : Int), (mN : Int), (l.natAbs : Int))], (nk2 : Int), by omega, hno4', by omega, by omega, by omega, rfl, rfl, by go_num, by go_num, HT6, HK6, HA6, hwz6, HI9, hst6⟩
                      case measure => simp [intOf] <;> omega
                    · have dl : decide (l < 0) = false := decide_eq_false hl0
                      go_wp2_with fail
                      obtain ⟨wg, hwg⟩ : ∃ z : World, z = wf := ⟨_, rfl⟩
                      subst hwg
                      have KG := KF
                      have HBG := HB8
                      have hrs : Hid (rsT l nowN mN = ((mN : Int), (nowN : Int), (l.natAbs : Int))) := by show _ = _; unfold rsT; rw [if_neg (by omega)]
                      clear kc0 kc1 kc2 kf0 kf1 kf2 klt KF HB8 hSf
                      obtain ⟨wi, hwd⟩ : ∃ z : World, z = wg.drew := ⟨_, rfl⟩
                      have hbd : Below wg.heap.size wg wi := by rw [hwd]; exact below_drewN _ 1
                      have HBI := Lib.hid (below_next HBG.out hbd)
                      have KI := Lib.hid (KG.out.keep hbd)
                      clear hbd HBG KG
                      have HTi := Lib.hid (HT8.out.keep HBI.out)
                      obtain ⟨_, Xn, qn, dn, xn, hE1, _, _, hcn, _, hIn, _, hxn⟩ := HTi.out.ko.p.round hnowl
                      cases hE1
                      obtain ⟨_, Xm, qm, dm, xm, hE2, _, _, hcm, _, hIm, _, hxm⟩ := HTi.out.ko.p.round hmk
                      cases hE2
                      have HIn := Lib.hid hIn
                      have HIm := Lib.hid hIm
                      have kc0 := KI.out.cell 0
                      have kc1 := KI.out.cell 1
                      have kc2 := KI.out.cell 2
                      simp at kc0 kc1 kc2
                      have hS : wi.cell? ⟨gK2, mN, none⟩ = some (.slice Xm qm dm) ∧ wi.cell? ⟨gK2, nowN, none⟩ = some (.slice Xn qn dn) ∧ wi.cell? ⟨b9, 0, none⟩ = some (.int .i64 (mN : Int)) ∧ wi.cell? ⟨b9, 1, none⟩ = some (.int .i64 (nowN : Int)) ∧ wi.cell? ⟨b9, 2, none⟩ = some (.int .i64 (l.natAbs : Int)) := ⟨hcm, hcn, kc0, kc1, kc2⟩
                      clear kc0 kc1 kc2 hcn hcm hIn hIm
                      have zgk := (cell_lt hS.1).1
                      have zb9 := (cell_lt hS.2.2.1).1
                      have hLn : Hid (Lits vars xn) := hI4.out.1 _ (List.mem_of_getElem? hxn.out)
                      have hLm : Hid (Lits vars xm) := hI4.out.1 _ (List.mem_of_getElem? hxm.out)
                      have hqn : qn ≤ 1000 := by have := hLn.out.len_le v0; rw [HIn.out.len] at this; omega
                      have hqm : qm ≤ 1000 := by have := hLm.out.len_le v0; rw [HIm.out.len] at this; omega
                      obtain ⟨lr, code, hres⟩ : ∃ lr code, Hid (resF xm xn (l.natAbs : Int) = (lr, code)) := ⟨_, _, rfl⟩
                      have hone : Hid ((oneR al2 (rsT l nowN mN)).1 = lr) := by
                        show _ = _
                        rw [hrs.out]
                        show (resF (al2.getD (mN : Int).toNat []) (al2.getD (nowN : Int).toNat []) (l.natAbs : Int)).1 = lr
                        rw [Int.toNat_natCast, Int.toNat_natCast, List.getD_eq_getElem?_getD, List.getD_eq_getElem?_getD, hxm.out, hxn.out]
                        exact congrArg Prod.fst hres.out
                      have hLr : Hid (Lits vars lr) := by have := resF_litsAny (v := (l.natAbs : Int)) hLm.out hLn.out; rw [hres.out] at this; exact this
                      have hst6 : Hid (trR known t y j4 (al2 ++ [lr]) (nk2 : Int) (ou2 ++ [((mN : Int), (nowN : Int), (l.natAbs : Int))]) = (f1, f2, f3)) := by
                        have := hst5.out
                        rw [hone.out, hrs.out, HTi.out.ko.p.len] at this
                        exact this
                      have hBn : Hid (∀ x ∈ xn, -1000000 ≤ x ∧ x ≤ 1000000) := fun x hx => by have := hLn.out.1 x hx; omega
                      have hBm : Hid (∀ x ∈ xm, -1000000 ≤ x ∧ x ≤ 1000000) := fun x hx => by have := hLm.out.1 x hx; omega
                      clear hxn hxm hLn hLm hone hst5 hrs HTi
                      refine wp_region_tail (fun w' => w'.cell? ⟨gK2, mN, none⟩ = some (.slice Xm qm dm) ∧ w'.cell? ⟨gK2, nowN, none⟩ = some (.slice Xn qn dn) ∧ w'.cell? ⟨b9, 0, none⟩ = some (.int .i64 (mN : Int)) ∧ w'.cell? ⟨b9, 1, none⟩ = some (.int .i64 (nowN : Int)) ∧ w'.cell? ⟨b9, 2, none⟩ = some (.int .i64 (l.natAbs : Int))) [] (by kernel_rfl) ?_
                      change wpAnyT _ _ _ _ _ _ _ _ _ wg.drew
                      rw [← hwd]
                      clear hwd
                      refine take0 (i := 0) (oi := _) (v := ?_) rfl (by kernel_rfl) (by kernel_rfl) (by kernel_rfl) (fun _ _ _ h => h) rfl (Or.inl ⟨by rfl, ?_⟩) (fun _ => hS) ?_
                      rotate_left
                      · intro w0; go_simp; with_reducible rfl
                      (try simp only [Act.put, List.setIfInBounds_toArray, List.set_cons_zero, List.set_cons_succ])
                      refine take0 (i := 1) (oi := _) (v := ?_) rfl (by kernel_rfl) (by kernel_rfl) (by kernel_rfl) (fun _ _ _ h => h) rfl (Or.inl ⟨by rfl, ?_⟩) (fun _ => hS) ?_
                      rotate_left
                      · intro w0; go_simp; with_reducible rfl
                      (try simp only [Act.put, List.setIfInBounds_toArray, List.set_cons_zero, List.set_cons_succ])
                      refine takeS (i := 2) (oi := _) (v := ?_) rfl (by kernel_rfl) (by kernel_rfl) (by kernel_rfl) (fun _ _ _ h => h) rfl (by kernel_rfl) (by kernel_rfl) (Or.inl ⟨by rfl, ?_⟩) hS ?_
                      rotate_left
                      · intro w0 hSw; (try dsimp only at hSw); go_simp; with_reducible rfl
                      (try simp only [Act.put, List.setIfInBounds_toArray, List.set_cons_zero, List.set_cons_succ])
                      refine take0 (i := 3) (oi := _) (v := ?_) rfl (by kernel_rfl) (by kernel_rfl) (by kernel_rfl) (fun _ _ _ h => h) rfl (Or.inl ⟨by rfl, ?_⟩) (fun _ => hS) ?_
                      rotate_left
                      · intro w0; go_simp; with_reducible rfl
                      (try simp only [Act.put, List.setIfInBounds_toArray, List.set_cons_zero, List.set_cons_succ])
                      refine takeS (i := 4) (oi := _) (v := ?_) rfl (by kernel_rfl) (by kernel_rfl) (by kernel_rfl) (fun _ _ _ h => h) rfl (by kernel_rfl) (by kernel_rfl) (Or.inl ⟨by rfl, ?_⟩) hS ?_
                      rotate_left
                      · intro w0 hSw; (try dsimp only at hSw); go_simp; with_reducible rfl
                      (try simp only [Act.put, List.setIfInBounds_toArray, List.set_cons_zero, List.set_cons_succ])
                      refine take0 (i := 5) (oi := _) (v := ?_) rfl (by kernel_rfl) (by kernel_rfl) (by kernel_rfl) (fun _ _ _ h => h) rfl (Or.inl ⟨by rfl, ?_⟩) (fun _ => hS) ?_
                      rotate_left
                      · intro w0; go_simp; with_reducible rfl
                      (try simp only [Act.put, List.setIfInBounds_toArray, List.set_cons_zero, List.set_cons_succ])
                      refine take0 (i := 6) (oi := _) (v := ?_) rfl (by kernel_rfl) (by kernel_rfl) (by kernel_rfl) (fun _ _ _ h => h) rfl (Or.inl ⟨by rfl, ?_⟩) (fun _ => hS) ?_
                      rotate_left
                      · intro w0; go_simp; with_reducible rfl
                      (try simp only [Act.put, List.setIfInBounds_toArray, List.set_cons_zero, List.set_cons_succ])
                      refine takeS (i := 7) (oi := _) (v := ?_) rfl (by kernel_rfl) (by kernel_rfl) (by kernel_rfl) (fun _ _ _ h => h) rfl (by kernel_rfl) (by kernel_rfl) (Or.inl ⟨by rfl, ?_⟩) hS ?_
                      rotate_left
                      · intro w0 hSw; (try dsimp only at hSw); go_simp; with_reducible rfl
                      (try simp only [Act.put, List.setIfInBounds_toArray, List.set_cons_zero, List.set_cons_succ])
                      refine take0 (i := 8) (oi := _) (v := ?_) rfl (by kernel_rfl) (by kernel_rfl) (by kernel_rfl) (fun _ _ _ h => h) rfl (Or.inl ⟨by rfl, ?_⟩) (fun _ => hS) ?_
                      rotate_left
                      · intro w0; go_simp; with_reducible rfl
                      (try simp only [Act.put, List.setIfInBounds_toArray, List.set_cons_zero, List.set_cons_succ])
                      refine takeS (i := 9) (oi := _) (v := ?_) rfl (by kernel_rfl) (by kernel_rfl) (by kernel_rfl) (fun _ _ _ h => h) rfl (by kernel_rfl) (by kernel_rfl) (Or.inl ⟨by rfl, ?_⟩) hS ?_
                      rotate_left
                      · intro w0 hSw; (try dsimp only at hSw); go_simp; with_reducible rfl
                      (try simp only [Act.put, List.setIfInBounds_toArray, List.set_cons_zero, List.set_cons_succ])
                      refine take0 (i := 10) (oi := _) (v := ?_) rfl (by kernel_rfl) (by kernel_rfl) (by kernel_rfl) (fun _ _ _ h => h) rfl (Or.inl ⟨by rfl, ?_⟩) (fun _ => hS) ?_
                      rotate_left
                      · intro w0; go_simp; with_reducible rfl
                      (try simp only [Act.put, List.setIfInBounds_toArray, List.set_cons_zero, List.set_cons_succ])
                      refine takeS (i := 11) (oi := _) (v := ?_) rfl (by kernel_rfl) (by kernel_rfl) (by kernel_rfl) (fun _ _ _ h => h) rfl (by kernel_rfl) (by kernel_rfl) (Or.inl ⟨by rfl, ?_⟩) hS ?_
                      rotate_left
                      · intro w0 hSw; (try dsimp only at hSw); go_simp; with_reducible rfl
                      (try simp only [Act.put, List.setIfInBounds_toArray, List.set_cons_zero, List.set_cons_succ])
                      refine oneT (i := 12) (by kernel_rfl) rfl (by rfl) (fun Kq hK => ?_)
                      go_simp
                      refine (resolved_ref Xm Xn qm dm qn dn xm xn (l.natAbs : Int) wi HIm.out HIn.out hBm.out hBn.out (by omega) (by omega) lr code hres).mono ?_
                      rintro e wj ⟨L2, nl2, cl2, rfl, ⟨hRi, hRo⟩, hbj⟩
                      have HRI := Lib.hid hRi
                      have HRO := Lib.hid hRo
                      have HBJ := Lib.hid (below_next HBI.out hbj)
                      have KJ := Lib.hid (KI.out.keep hbj)
                      have hWi : Hid (w5.heap.size ≤ wi.heap.size) := Nat.le_trans HW8.out HBI.out.size
                      have hSj : wj.cell? ⟨gK2, mN, none⟩ = some (.slice Xm qm dm) ∧ wj.cell? ⟨gK2, nowN, none⟩ = some (.slice Xn qn dn) ∧ wj.cell? ⟨b9, 0, none⟩ = some (.int .i64 (mN : Int)) ∧ wj.cell? ⟨b9, 1, none⟩ = some (.int .i64 (nowN : Int)) ∧ wj.cell? ⟨b9, 2, none⟩ = some (.int .i64 (l.natAbs : Int)) := ⟨keepBox hbj hS.1, keepBox hbj hS.2.1, keepBox hbj hS.2.2.1, keepBox hbj hS.2.2.2.1, keepBox hbj hS.2.2.2.2⟩
                      clear hRi hRo hbj HBI KI HIn HIm hBn hBm hres hS
                      refine hK _ _ (fun _ => hSj) ?_
                      clear hK
                      (try simp only [Act.put, List.setIfInBounds_toArray, List.set_cons_zero, List.set_cons_succ])
                      refine take0 (i := 13) (oi := _) (v := ?_) rfl (by kernel_rfl) (by kernel_rfl) (by kernel_rfl) (fun _ _ _ h => h) rfl (Or.inl ⟨by rfl, ?_⟩) (fun _ => hSj) ?_
                      rotate_left
                      · intro w0; go_simp; with_reducible rfl
                      (try simp only [Act.put, List.setIfInBounds_toArray, List.set_cons_zero, List.set_cons_succ])
                      refine take0 (i := 14) (oi := _) (v := ?_) rfl (by kernel_rfl) (by kernel_rfl) (by kernel_rfl) (fun _ _ _ h => h) rfl (Or.inl ⟨by rfl, ?_⟩) (fun _ => hSj) ?_
                      rotate_left
                      · intro w0; go_simp; with_reducible rfl
                      (try simp only [Act.put, List.setIfInBounds_toArray, List.set_cons_zero, List.set_cons_succ])
                      refine take0 (i := 15) (oi := _) (v := ?_) rfl (by kernel_rfl) (by kernel_rfl) (by kernel_rfl) (fun _ _ _ h => h) rfl (Or.inl ⟨by rfl, ?_⟩) (fun _ => hSj) ?_
                      rotate_left
                      · intro w0; go_simp; with_reducible rfl
                      (try simp only [Act.put, List.setIfInBounds_toArray, List.set_cons_zero, List.set_cons_succ])
                      refine take0 (i := 16) (oi := _) (v := ?_) rfl (by kernel_rfl) (by kernel_rfl) (by kernel_rfl) (fun _ _ _ h => h) rfl (Or.inl ⟨by rfl, ?_⟩) (fun _ => hSj) ?_
                      rotate_left
                      · intro w0; go_simp; with_reducible rfl
                      (try simp only [Act.put, List.setIfInBounds_toArray, List.set_cons_zero, List.set_cons_succ])
                      refine take0 (i := 17) (oi := _) (v := ?_) rfl (by kernel_rfl) (by kernel_rfl) (by kernel_rfl) (fun _ _ _ h => h) rfl (Or.inl ⟨by rfl, ?_⟩) (fun _ => hSj) ?_
                      rotate_left
                      · intro w0; go_simp; with_reducible rfl
                      (try simp only [Act.put, List.setIfInBounds_toArray, List.set_cons_zero, List.set_cons_succ])
                      refine doneT (by kernel_rfl) ?_ _
                      clear hSj zgk zb9
                      have HTj := Lib.hid (HT8.out.keep HBJ.out)
                      have HKj := Lib.hid (HK8.out.keep HBJ.out)
                      have HAj : Hid (Ints wj (some ⟨bL, offL, none⟩) nl4 cl4 t ∧ Ints wj (some ⟨bY, offY, none⟩) ny4 cy4 y ∧ Apart 3 wj 0 (some ⟨bL, offL, none⟩) ∧ Apart 3 wj 0 (some ⟨bY, offY, none⟩)) := ⟨HA8.out.1.keep HBJ.out, HA8.out.2.1.keep HBJ.out, HA8.out.2.2.1.keep HBJ.out, HA8.out.2.2.2.keep HBJ.out⟩
                      have HWj : Hid (w5.heap.size ≤ wj.heap.size) := Nat.le_trans HW8.out HBJ.out.size
                      have hnl2 := HRI.out.bd
                      have FR : Hid (blockOf L2 = none ∨ blockOf L2 ≠ blockOf (some ⟨gN, 0, none⟩)) := own_far HRO.out (fun q hq => by have h1 := hBN.out q hq; have h2 := hWi.out; omega)
                      have kc0 := KJ.out.cell 0
                      have kc1 := KJ.out.cell 1
                      have kc2 := KJ.out.cell 2
                      simp at kc0 kc1 kc2
                      have kf0 := KJ.out.frozen 0
                      have kf1 := KJ.out.frozen 1
                      have kf2 := KJ.out.frozen 2
                      have klt := KJ.out.lt
                      have hba : Below wj.heap.size wj (wj.alloc (.cells #[.int .i64 (mN : Int), .int .i64 (nowN : Int), .int .i64 (l.natAbs : Int)] 75)) := below_new _ _
                      have KN : Hid (Blk (wj.alloc (.cells #[.int .i64 (mN : Int), .int .i64 (nowN : Int), .int .i64 (l.natAbs : Int)] 75)) wj.heap.size 75 #[.int .i64 (mN : Int), .int .i64 (nowN : Int), .int .i64 (l.natAbs : Int)]) := Blk.new _ _ _
                      have HT1 := Lib.hid (HTj.out.keep hba)
                      have HK1 := Lib.hid (HKj.out.keep hba)
                      have HA1 : Hid (Ints (wj.alloc (.cells #[.int .i64 (mN : Int), .int .i64 (nowN : Int), .int .i64 (l.natAbs : Int)] 75)) (some ⟨bL, offL, none⟩) nl4 cl4 t ∧ Ints (wj.alloc (.cells #[.int .i64 (mN : Int), .int .i64 (nowN : Int), .int .i64 (l.natAbs : Int)] 75)) (some ⟨bY, offY, none⟩) ny4 cy4 y ∧ Apart 3 (wj.alloc (.cells #[.int .i64 (mN : Int), .int .i64 (nowN : Int), .int .i64 (l.natAbs : Int)] 75)) 0 (some ⟨bL, offL, none⟩) ∧ Apart 3 (wj.alloc (.cells #[.int .i64 (mN : Int), .int .i64 (nowN : Int), .int .i64 (l.natAbs : Int)] 75)) 0 (some ⟨bY, offY, none⟩)) := ⟨HAj.out.1.keep hba, HAj.out.2.1.keep hba, HAj.out.2.2.1.keep hba, HAj.out.2.2.2.keep hba⟩
                      have HR1 := Lib.hid (HRI.out.keep hba)
                      have HO1 := Lib.hid (HRO.out.keep hba)
                      have hz9 := HT1.out.bl.size
                      have hwz1 : Hid (w5.heap.size ≤ (wj.alloc (.cells #[.int .i64 (mN : Int), .int .i64 (nowN : Int), .int .i64 (l.natAbs : Int)] 75)).heap.size) := Nat.le_trans HWj.out hba.size
                      have hnoL : no2 ≤ 3000 := by omega
                      have hnowI : (nowN : Int) < (nk2 : Int) := by omega
                      have hmI : (mN : Int) < (nk2 : Int) := by omega
                      have hnk3 : nk2 ≤ 4000 := by omega
                      clear hba HT8 HK8 HA8 HW8 HBJ HTj HKj HAj HWj HRI HRO hWi KJ
                      go_wp2_with (first
                        | (at_builtin
                           refine wpList_append_res _ rfl (.tmp 158) (.tmp 160) 69 rfl w1.heap.size ires _ Try.underlying69 hires hs0 hs1 hs2 rfl O2 no2 co2 _ rfl HT1.out.oo wj.heap.size ((mN : Int), (nowN : Int), (l.natAbs : Int)) rfl (fun j u hu => by
                             have := KN.out.cell j
                             rw [this]
                             have hj : j < 3 := by have := (List.getElem?_eq_some_iff.1 hu).1; simpa [cells3] using this
                             match j, hj, hu with
                             | 0, _, hu => simpa [cells3] using hu
                             | 1, _, hu => simpa [cells3] using hu
                             | 2, _, hu => simpa [cells3] using hu) ⟨by unfold I64; simp only; omega, by unfold I64; simp only; omega, by unfold I64; simp only; omega⟩ (by simp only [maxLen]; omega) (by omega) hz9 ?_
                           intro O3 co3 wz hO3 hG3
                           have HT2 := Lib.hid (HT1.out.growO hO3 hG3)
                           have hty : ∀ q, blockOf O2 = some q → Typed 75 (wj.alloc (.cells #[.int .i64 (mN : Int), .int .i64 (nowN : Int), .int .i64 (l.natAbs : Int)] 75)) q := fun q hq => (HT1.out.oo.base hq).2
                           have HK2 : Hid (Blk wz bt 35 #[.slice (some ⟨bL, offL, none⟩) nl4 cl4, .slice (some ⟨bY, offY, none⟩) ny4 cy4, .int .i64 aN]) := blk_kept HK1.out hG3 hty (by decide)
                           have HA2 : Hid (Ints wz (some ⟨bL, offL, none⟩) nl4 cl4 t ∧ Ints wz (some ⟨bY, offY, none⟩) ny4 cy4 y ∧ Apart 3 wz 0 (some ⟨bL, offL, none⟩) ∧ Apart 3 wz 0 (some ⟨bY, offY, none⟩)) := two_kept HA1.out hG3 hty (by decide)
                           have HO2 := Lib.hid (HO1.out.keptT hG3 hty (by decide))
                           have HR2 := Lib.hid (HO2.out.ints (fun z hz => by have := hLr.out.1 z hz; unfold I64; omega))
                           have hba2 : Below wz.heap.size wz (wz.alloc (.cells #[.slice L2 nl2 cl2] 25)) := below_new _ _
                           have HT3 := Lib.hid (HT2.out.keep hba2)
                           have HK3 := Lib.hid (HK2.out.keep hba2)
                           have HA3 : Hid (Ints (wz.alloc (.cells #[.slice L2 nl2 cl2] 25)) (some ⟨bL, offL, none⟩) nl4 cl4 t ∧ Ints (wz.alloc (.cells #[.slice L2 nl2 cl2] 25)) (some ⟨bY, offY, none⟩) ny4 cy4 y ∧ Apart 3 (wz.alloc (.cells #[.slice L2 nl2 cl2] 25)) 0 (some ⟨bL, offL, none⟩) ∧ Apart 3 (wz.alloc (.cells #[.slice L2 nl2 cl2] 25)) 0 (some ⟨bY, offY, none⟩)) := ⟨HA2.out.1.keep hba2, HA2.out.2.1.keep hba2, HA2.out.2.2.1.keep hba2, HA2.out.2.2.2.keep hba2⟩
                           have HR3 := Lib.hid (HR2.out.keep hba2)
                           have HO3 := Lib.hid (HO2.out.keep hba2)
                           have hwz3 : Hid (w5.heap.size ≤ (wz.alloc (.cells #[.slice L2 nl2 cl2] 25)).heap.size) := Nat.le_trans (Nat.le_trans hwz1.out hG3.size) hba2.size
                           have HSS := Lib.hid (sl_one wz 25 (.slice L2 nl2 cl2) rfl)
                           have hz10 := HT3.out.bl.size
                           obtain ⟨vs, hv1, hv2, hv3⟩ := HT3.out.ko
                           have HV1 := Lib.hid hv1
                           have HV2 := Lib.hid hv2
                           have HV3 := Lib.hid hv3
                           clear hO3 hG3 hty hba2 HT2 HK2 HA2 HR2 HO2 HT1 HK1 HA1 HR1 HO1 hv1 hv2 hv3 KN hwz1 kc0 kc1 kc2 kf0 kf1 kf2 klt)
                        | (at_builtin
                           refine wpList_append_sl _ rfl (.tmp 162) (.tmp 164) _ rfl w1.heap.size 25 ir _ 24 Try.underlying22 hir hr0 hr1 hr2 rfl (some ⟨gK2, 0, none⟩) nk2 ck2 vs rfl HV1.out (some ⟨wz.heap.size, 0, none⟩) 1 1 _ rfl HSS.out (by simp [Value.oneCell']) (by simp only [maxLen]; omega) (by omega) hz10 ?_
                           intro K3 ck3 w6 hK3 hG4 hA4
                           have HT6 : Hid (UnG w1 w6 K3 (nk2 + 1) ck3 (some ⟨gN, 0, none⟩) i cn' O3 (no2 + 1) co3 (al2 ++ [lr]) known (ou2 ++ [((mN : Int), (nowN : Int), (l.natAbs : Int))])) := HT3.out.growK HV1.out HV2.out HV3.out HR3.out (Away.own HO3.out) (fun _ => FR.out) hK3 hG4
                           have hty : ∀ q, blockOf (some ⟨gK2, 0, none⟩) = some q → Typed 25 (wz.alloc (.cells #[.slice L2 nl2 cl2] 25)) q := fun q hq => (own_rows HV1.out (Nat.le_refl _) q hq).2
                           have HK6 : Hid (Blk w6 bt 35 #[.slice (some ⟨bL, offL, none⟩) nl4 cl4, .slice (some ⟨bY, offY, none⟩) ny4 cy4, .int .i64 aN]) := blk_kept HK3.out hG4 hty (by decide)
                           have HA6 : Hid (Ints w6 (some ⟨bL, offL, none⟩) nl4 cl4 t ∧ Ints w6 (some ⟨bY, offY, none⟩) ny4 cy4 y ∧ Apart 3 w6 0 (some ⟨bL, offL, none⟩) ∧ Apart 3 w6 0 (some ⟨bY, offY, none⟩)) := two_kept HA3.out hG4 hty (by decide)
                           have hwz6 : Hid (w5.heap.size ≤ w6.heap.size) := Nat.le_trans hwz3.out hG4.size
                           clear hK3 hG4 hA4 hty HT3 HK3 HA3 HR3 HO3 HV1 HV2 HV3 HSS))
                      have hno4' : no2 + 1 + j4 ≤ no + t.length := by omega
                      have HI9 : Hid ((∀ x ∈ al2 ++ [lr], Lits vars x) ∧ 0 ≤ (nk2 : Int) ∧ (nk2 : Int) < ((nk2 + 1 : Nat) : Int)) := ⟨fun x hx => by
                        rcases List.mem_append.1 hx with hx | hx
                        · exact hI4.out.1 x hx
                        · simp at hx; subst hx; exact hLr.out, by omega, by omega⟩
                      go_roundw
                      case rel => exact ⟨j4, nk2 + 1, ck3, no2 + 1, co3, K3, O3, al2 ++ [lr], ou2 ++ [((mN : Int), (nowN : Int), (l.natAbs : Int))], (nk2 : Int), by omega, hno4', by omega, by omega, by omega, rfl, rfl, by go_num, by go_num, HT6, HK6, HA6, hwz6, HI9, hst6⟩
                      case measure => simp [intOf] <;> omega
      · obtain rfl : some out = R := by have := hgo.out; rw [List.drop_of_length_le (by rw [hlen.out]; omega), unL] at this; exact this
        clear hgo
        go_wp2_with fail
        exact bodyPost_ret (v := .tuple #[.slice O no co, .bool true]) (by simp [results, Try.results41, go_sem]) rfl ⟨O, no, co, rfl, hT.out.oo.trips, BW2.out⟩
end Go.Proofs.Ytabjbpkojbdgaaa

/- Contract of the reference's StepsWrong. (Printed by wip/tools/check.py.) -/
namespace Go.Proofs.Ytabjbpkojbdgaaa
open Go.RowKit
set_option linter.unusedSimpArgs false

set_option maxHeartbeats 4000000 in
set_option maxRecDepth 100000 in
theorem stepsWrong_any (A B : Option Addr) (n c m d : Nat) (xss : List (List Int)) (rs : List (Int × List Int)) (vars : Int) (w : World) (h : Grid w A n c xss) (hv : I64 vars) (h' : Steps w B m d rs) (r1 r2 : Int) (hr : Hid (stepsR vars xss rs = (r1, r2))) :
    Calls Try.prog 58 #[.agg #[.int .i64 vars, .slice A n c], .slice B m d] w (RetV (.agg #[.int .i64 r1, .int .i64 r2]) w) := by
  have hbd := h.bd
  have hbd' := h'.bd
  have hlen := Lib.hid h'.len
  have G := Lib.hid h
  have V := Lib.hid h'
  obtain ⟨p1, p2, hp⟩ : ∃ p1 p2, Hid (checkC vars xss = (p1, p2)) := ⟨_, _, rfl⟩
  have hr2 : Hid ((if p1 ≠ 0 then (p1, p2) else if 3000 < m then (2, -1) else wrongF vars rs 0) = (r1, r2)) := by have := hr.out; rw [stepsR, hp.out, hlen.out] at this; exact this
  clear h h' hr
  go_enter Try.func58, Try.ntmps58
  go_wp2_with fail
  refine (check_ref _ _ _ xss vars _ (G.out.keep (below_alloc (below_new _ _) _)) hv p1 p2 hp).mono ?_
  rintro e w1 ⟨rfl, hb1⟩
  obtain ⟨K_c0, K_r0, B_w1, l_w1⟩ := two_blks hb1
  have c0 := K_c0.cell 0
  have c1 := K_c0.cell 1
  have e0 := K_r0.cell 0
  have e1 := K_r0.cell 1
  have f0 := K_r0.frozen 0
  have f1 := K_r0.frozen 1
  simp at c0 c1 e0 e1
  have lc : w.heap.size < w1.heap.size := by omega
  have lr : w.heap.size + 1 < w1.heap.size := by omega
  have HB1 := Lib.hid B_w1
  have KC1 := Lib.hid K_c0
  have KR1 := Lib.hid K_r0
  clear hb1 K_c0 K_r0 B_w1
  by_cases hp1 : p1 = 0
  rotate_left
  · have d1 : (p1 != 0) = true := by simpa using hp1
    obtain ⟨rfl, rfl⟩ : p1 = r1 ∧ p2 = r2 := by have := hr2.out; rw [if_pos hp1] at this; simpa using this
    go_wp2_with fail
    refine bodyPost_ret (v := .agg #[.int .i64 p1, .int .i64 p2]) (by simp [results, Try.results58, go_sem, e0, e1, lr]) rfl ⟨rfl, ?_⟩
    exact (below_put2 HB1.out (g := w.heap.size + 1) (by omega) _ _).alloc (by simp; omega) _
  · subst hp1
    obtain ⟨_, v0, v1, _, _⟩ := checkC_ok (vars := vars) (xss := xss) (by rw [hp.out])
    have hr3 : Hid ((if 3000 < m then ((2 : Int), (-1 : Int)) else wrongF vars rs 0) = (r1, r2)) := by have := hr2.out; rw [if_neg (by simp)] at this; exact this
    clear hr2
    by_cases hm3 : 3000 < m
    · have d2 : decide ((3000 : Int) < (m : Int)) = true := by simp; omega
      obtain ⟨rfl, rfl⟩ : 2 = r1 ∧ -1 = r2 := by have := hr3.out; rw [if_pos hm3] at this; simpa using this
      go_wp2_with fail
      refine bodyPost_ret (v := .agg #[.int .i64 2, .int .i64 (-1)]) (by simp [results, Try.results58, go_sem, e0, e1, lr]) rfl ⟨rfl, ?_⟩
      exact (below_put2 HB1.out (g := w.heap.size + 1) (by omega) _ _).alloc (by simp; omega) _
    have d2 : decide ((3000 : Int) < (m : Int)) = false := by simp; omega
    have hr4 : Hid (wrongF vars rs 0 = (r1, r2)) := by have := hr3.out; rw [if_neg hm3] at this; exact this
    have hm4 : m ≤ 3000 := by omega
    clear hr3 hm3
    obtain ⟨w0, hw0⟩ : ∃ w0 : World, w0 = w1.alloc (.cells #[.int .i64 0, .int .i64 p2] 28) := ⟨_, rfl⟩
    have hbx : Below w1.heap.size w1 w0 := by rw [hw0]; exact below_new _ _
    have HB := Lib.hid (below_next HB1.out hbx)
    have KC := Lib.hid (KC1.out.keep hbx)
    have KR := Lib.hid (KR1.out.keep hbx)
    have HW0 := Lib.hid hw0
    clear hw0 hbx
    go_wp2_with fail
    rw [← HW0.out]
    clear HW0 c0 c1 e0 e1 f0 f1 lc lr
    go_loopw [6] (fun s wr => ∃ k : Nat, k ≤ m ∧ s = .int .i64 k ∧ Hid (wrongF vars (rs.drop k) k = (r1, r2)) ∧ Hid (Below w0.heap.size w0 wr)) (fun s _ => m - (intOf s).toNat)
    case atStart => exact ⟨0, Nat.zero_le _, rfl, hr4, Below.refl _ _⟩
    case round =>
      obtain ⟨k, hk, rfl, hgo, hbl⟩ := hrel
      have KCw := Lib.hid (KC.out.keep hbl.out)
      have KRw := Lib.hid (KR.out.keep hbl.out)
      have c0 := KCw.out.cell 0
      have e0 := KRw.out.cell 0
      have e1 := KRw.out.cell 1
      have f0 := KRw.out.frozen 0
      have f1 := KRw.out.frozen 1
      simp at c0 e0 e1
      have lc := KCw.out.lt
      have lr := KRw.out.lt
      by_cases hlt : k < m
      · obtain ⟨b, off, kd, X, nx, cx, xs, X2, n2, c2, i3, i4, i5, X6, n6, c6, i7, i8, hBe, hb, s0, s1, s2, s3, s4, s5, s6, s7, s8, hkd, hxs, hrk⟩ := (V.out.keep (below_next HB.out hbl.out)).round hlt
        subst hBe
        unfold I64 at hkd
        obtain ⟨q1, q2, hq⟩ : ∃ q1 q2, Hid (badF vars [] xs = (q1, q2)) := ⟨_, _, rfl⟩
        have hgo2 : Hid ((if kd ≠ 1 ∧ kd ≠ 2 then ((4 : Int), (k : Int)) else if q2 ≠ 0 then (q2, (k : Int)) else wrongF vars (rs.drop (k + 1)) (k + 1)) = (r1, r2)) := by have := hgo.out; rw [drop_cons_of hrk.out, wrongF, hq.out] at this; exact this
        have y1 : (0 : Int) ≤ (k : Int) := by omega
        have y2 : (k : Int) < (m : Int) := by omega
        have HXS := Lib.hid hxs
        clear hxs hgo
        by_cases hkk : kd ≠ 1 ∧ kd ≠ 2
        · obtain ⟨h1, h2⟩ := hkk
          obtain ⟨rfl, rfl⟩ : 4 = r1 ∧ (k : Int) = r2 := by have := hgo2.out; rw [if_pos ⟨h1, h2⟩] at this; simpa using this
          have d4 : (kd != 1) = true := by simpa using h1
          have d5 : (kd != 2) = true := by simpa using h2
          have HBF := Lib.hid (below_next HB.out hbl.out)
          go_wp2_with fail
          refine bodyPost_ret (v := .agg #[.int .i64 4, .int .i64 k]) (by simp [results, Try.results58, go_sem, e0, e1, lr]) rfl ⟨rfl, ?_⟩
          exact below_put2 HBF.out (g := w.heap.size + 1) (by omega) _ _
        · have hgo3 : Hid ((if q2 ≠ 0 then (q2, (k : Int)) else wrongF vars (rs.drop (k + 1)) (k + 1)) = (r1, r2)) := by have := hgo2.out; rw [if_neg hkk] at this; exact this
          have hk12 : kd = 1 ∨ kd = 2 := by omega
          clear hkk hgo2
          rcases hk12 with rfl | rfl
          · go_wp2_with fail
            go_quiet ((go_at_call 21; with_reducible exact RetQ.quiet (wrong_any _ _ _ xs vars _ (HXS.out.drewN _) v0 (by omega) q1 q2 hq)))
            by_cases hq2 : q2 = 0
            · subst hq2
              have hgo4 : Hid (wrongF vars (rs.drop (k + 1)) (k + 1) = (r1, r2)) := by have := hgo3.out; rw [if_neg (by simp)] at this; exact this
              go_wp2_with fail
              go_roundw
              case rel => exact ⟨k + 1, by omega, by go_num, hgo4, below_next hbl.out (below_drewN _ _)⟩
              case measure => simp [intOf]; omega
            · have d6 : (q2 != 0) = true := by simpa using hq2
              obtain ⟨rfl, rfl⟩ : q2 = r1 ∧ (k : Int) = r2 := by have := hgo3.out; rw [if_pos hq2] at this; simpa using this
              have HBF := Lib.hid (below_next HB.out hbl.out)
              go_wp2_with fail
              refine bodyPost_ret (v := .agg #[.int .i64 q2, .int .i64 k]) (by simp [results, Try.results58, go_sem, e0, e1, lr]) rfl ⟨rfl, ?_⟩
              exact below_put2 (below_next HBF.out (below_drewN _ _)) (g := w.heap.size + 1) (by omega) _ _
          · go_wp2_with fail
            go_quiet ((go_at_call 21; with_reducible exact RetQ.quiet (wrong_any _ _ _ xs vars _ (HXS.out.drewN _) v0 (by omega) q1 q2 hq)))
            by_cases hq2 : q2 = 0
            · subst hq2
              have hgo4 : Hid (wrongF vars (rs.drop (k + 1)) (k + 1) = (r1, r2)) := by have := hgo3.out; rw [if_neg (by simp)] at this; exact this
              go_wp2_with fail
              go_roundw
              case rel => exact ⟨k + 1, by omega, by go_num, hgo4, below_next hbl.out (below_drewN _ _)⟩
              case measure => simp [intOf]; omega
            · have d6 : (q2 != 0) = true := by simpa using hq2
              obtain ⟨rfl, rfl⟩ : q2 = r1 ∧ (k : Int) = r2 := by have := hgo3.out; rw [if_pos hq2] at this; simpa using this
              have HBF := Lib.hid (below_next HB.out hbl.out)
              go_wp2_with fail
              refine bodyPost_ret (v := .agg #[.int .i64 q2, .int .i64 k]) (by simp [results, Try.results58, go_sem, e0, e1, lr]) rfl ⟨rfl, ?_⟩
              exact below_put2 (below_next HBF.out (below_drewN _ _)) (g := w.heap.size + 1) (by omega) _ _
      · obtain rfl : k = m := by omega
        obtain ⟨rfl, rfl⟩ : 0 = r1 ∧ 0 = r2 := by have := hgo.out; rw [List.drop_of_length_le (by rw [hlen.out]; omega), wrongF] at this; simpa using this
        have SI : Hid ((wr.setCell ⟨w.heap.size + 1, 0, none⟩ (.int .i64 0)).setCell ⟨w.heap.size + 1, 1, none⟩ (.int .i64 0) = wr) := by rw [setCell_id KRw.out rfl, setCell_id KRw.out rfl]; rfl
        go_wp2_with fail
        exact bodyPost_ret (v := .agg #[.int .i64 0, .int .i64 0]) (by rw [SI.out]; simp [results, Try.results58, go_sem, e0, e1]) rfl ⟨rfl, by rw [SI.out]; exact below_next HB.out hbl.out⟩
end Go.Proofs.Ytabjbpkojbdgaaa

/- Contract of the reference's Refused. (Printed by wip/tools/refused.py.) -/
namespace Go.Proofs.Ytabjbpkojbdgaaa
open Go.RowKit
set_option linter.unusedSimpArgs false

/-- What is left of l, looked at to place j: 'gone': has a clause like own gone? -/
def leftF (own : List Int) : List (List Int) → Bool → List (List Int) → List (List Int) × Bool
  | [], g, o => (o, g)
  | x :: t, g, o => if !g && sameB x own then leftF own t true o else leftF own t g (o ++ [x])
theorem leftF_gone (own : List Int) : ∀ (l o : List (List Int)), leftF own l true o = (o ++ l, true)
  | [], o => by simp [leftF]
  | x :: t, o => by rw [leftF]; simp [leftF_gone own t]
theorem leftF_eq (own : List Int) : ∀ (l o : List (List Int)), leftF own l false o = if own ∈ l then (o ++ l.erase own, true) else (o ++ l, false)
  | [], o => by simp [leftF]
  | x :: t, o => by
    rw [leftF]
    by_cases h : x = own
    · subst h
      rw [if_pos (by simp [sameB]), leftF_gone]
      simp
    · have h1 : sameB x own = false := by rw [Bool.eq_false_iff]; exact fun e => h (sameB_iff.1 e)
      rw [if_neg (by simp [h1]), leftF_eq own t]
      have h2 : own ∈ x :: t ↔ own ∈ t := ⟨fun h3 => (List.mem_cons.1 h3).elim (fun e => absurd e.symm h) id, fun h3 => List.mem_cons_of_mem _ h3⟩
      by_cases h3 : own ∈ t
      · rw [if_pos h3, if_pos (h2.2 h3), List.erase_cons_tail (by simpa using h)]
        simp
      · rw [if_neg h3, if_neg (fun e => h3 (h2.1 e))]
        simp

set_option maxHeartbeats 8000000 in
set_option maxRecDepth 100000 in
theorem refused_any (A B : Option Addr) (n c m d : Nat) (xss : List (List Int)) (rs : List (Int × List Int)) (vars : Int) (w : World) (h : Grid w A n c xss) (h' : Steps w B m d rs) (v0 : 0 ≤ vars) (v1 : vars ≤ 120) (hn : n ≤ 400) (hm : m ≤ 3000) (hx : ∀ x ∈ xss, Lits vars x) (hs : ∀ r ∈ rs, (r.1 = 1 ∨ r.1 = 2) ∧ Lits vars r.2) (z : Int) (hz : Hid (whyF vars m xss rs 0 = z)) :
    Calls Try.prog 59 #[.agg #[.int .i64 vars, .slice A n c], .slice B m d] w (RetV (.int .i64 z) w) := by
  have hbd := h.bd
  have hbd' := h'.bd
  have hlx := Lib.hid h.len
  have hlr := Lib.hid h'.len
  obtain ⟨i0, hi0, hz0, hz1, hz2⟩ := info_parts row_info
  have hz' : Hid (refF vars m (xss.map sortF) rs 0 = z) := by rw [why_ref rs xss 0 hx hs]; exact hz
  have HX := Lib.hid hx
  have HS := Lib.hid hs
  obtain ⟨w0, hw0⟩ : ∃ w0 : World, w0 = w.alloc (.cells #[.int .i64 vars, .slice A n c] 24) := ⟨_, rfl⟩
  have hb0 : Below w.heap.size w w0 := by rw [hw0]; exact below_new _ _
  have KC : Hid (Blk w0 w.heap.size 24 #[.int .i64 vars, .slice A n c]) := by rw [hw0]; exact Blk.new _ _ _
  have HB := Lib.hid hb0
  have HW0 := Lib.hid hw0
  have G := Lib.hid (h.keep hb0)
  have V := Lib.hid (h'.keep hb0)
  clear h h' hx hs hz hw0 hb0
  go_enter Try.func59, Try.ntmps59
  go_wp2_with fail
  rw [← HW0.out]
  clear HW0
  go_loopw [5, 6] (fun s5 s6 wr => ∃ (k cl : Nat) (L : Option Addr), k ≤ n ∧ s5 = .slice L k cl ∧ s6 = .int .i64 k ∧ Hid (OwnP 25 3 wr w0.heap.size 0 L k cl ((xss.take k).map sortF)) ∧ Hid (Below w0.heap.size w0 wr)) (fun _ s _ => n - (intOf s).toNat)
  case atStart => exact ⟨0, 0, none, Nat.zero_le _, rfl, rfl, by simpa [Hid] using OwnP.nil _ _ _ _ _, Below.refl _ _⟩
  case round =>
    obtain ⟨k, cl, L, hk, rfl, rfl, hO, hbl⟩ := hrel
    have hwr := hbl.out.size
    have cc := (KC.out.keep hbl.out).cell 1
    have lc := (KC.out.keep hbl.out).lt
    simp at cc
    by_cases hlt : k < n
    · obtain ⟨b, off, X, nx, cx, x, hLe, hb, hcell, hxi, hxk⟩ := (G.out.keep hbl.out).round hlt
      subst hLe
      have hxl := HX.out x (List.mem_of_getElem? hxk.out)
      have HXB : Hid (∀ q ∈ x, -1000000 ≤ q ∧ q ≤ 1000000) := fun q hq => by have := hxl.1 q hq; omega
      have hnx : nx ≤ 120 := by have h1 := hxl.len_le v0; have h2 := hxi.len; omega
      have HXI := Lib.hid hxi
      have y1 : (0 : Int) ≤ (k : Int) := by omega
      have y2 : (k : Int) < (n : Int) := by omega
      clear hxi hxl
      go_wp2_with fail
      refine (sorted_ref _ _ _ x _ HXI.out HXB.out (by omega)).mono ?_
      rintro e w3 ⟨L3, n3, c3, rfl, hO3, hb3⟩
      have I3 := Lib.hid (hO3.ints (fun q hq => (by have := HXB.out q (sortF_mem.1 hq); unfold I64; omega)))
      have O3 := Lib.hid hO3
      have OW := Lib.hid (hO.out.keep hb3)
      have BL3 := Lib.hid (below_next hbl.out hb3)
      have hw3 := BL3.out.size
      clear hO3 hb3
      obtain ⟨vs, hv1, hv2⟩ := OW.out
      have HV1 := Lib.hid (hv1.keep (below_new w3 (.cells #[.slice L3 n3 c3] 25)))
      have HV2 := Lib.hid (hv2.keep (below_new w3 (.cells #[.slice L3 n3 c3] 25)))
      have hSS := sl_one w3 25 (.slice L3 n3 c3) rfl
      clear hv1 hv2
      go_wp2_with (first
        | (at_builtin
           refine wpList_append_sl _ rfl (.tmp 20) (.tmp 27) _ rfl w0.heap.size 25 i0 _ 24 Try.underlying22 hi0 hz0 hz1 hz2 rfl L k cl _ rfl HV1.out (some ⟨w3.heap.size, 0, none⟩) 1 1 _ rfl hSS (by simp [Value.oneCell']) (by simp only [maxLen]; omega) (by omega) (by simp; omega) ?_
           intro L1 cL1 w6 hL1 hg1 hat1
           have HP6 := Lib.hid (OwnP.push HV1.out HV2.out (Nat.zero_le _) row_ne (I3.out.keep (below_new _ _)) (Away.own (O3.out.keep (below_new _ _))) hL1 hg1)
           have HB6 := Lib.hid (below_grown (below_alloc BL3.out (.cells #[.slice L3 n3 c3] 25)) HV1.out (Nat.le_refl _) hg1)
           clear hL1 hg1 hat1))
      go_roundw
      case rel => exact ⟨k + 1, cL1, L1, by omega, rfl, by go_num, by rw [take_snoc_of hxk.out, List.map_append]; exact HP6, HB6⟩
      case measure => simp [intOf]; omega
    · obtain rfl : k = n := by omega
      have HO0 : Hid (OwnP 25 3 wr w0.heap.size 0 L k cl (xss.map sortF)) := by have := hO.out; rw [List.take_of_length_le (by rw [hlx.out]; omega)] at this; exact this
      have HLS : Hid (∀ x ∈ xss.map sortF, Lits vars x) := fun x hx => by obtain ⟨y, hy, rfl⟩ := List.mem_map.1 hx; exact (HX.out y hy).sortF
      obtain ⟨wb, hwb⟩ : ∃ wb : World, wb = wr := ⟨_, rfl⟩
      subst hwb
      have HBB := Lib.hid hbl.out
      clear hO hbl
      go_wp2_with fail
      clear cc lc
      go_loopw [5, 7] (fun s5 s7 wr => ∃ (i nl cl : Nat) (L : Option Addr) (l : List (List Int)), i ≤ m ∧ s5 = .slice L nl cl ∧ s7 = .int .i64 i ∧ nl ≤ 400 + i ∧ Hid (OwnP 25 3 wr w0.heap.size 0 L nl cl l) ∧ Hid (refF vars m l (rs.drop i) i = z) ∧ Hid (∀ x ∈ l, Lits vars x) ∧ Hid (Below w0.heap.size w0 wr)) (fun _ s _ => m - (intOf s).toNat)
      case atStart => exact ⟨0, k, cl, L, xss.map sortF, Nat.zero_le _, rfl, rfl, by omega, HO0, hz', HLS, HBB⟩
      case round =>
        clear HO0 HLS HBB hz'
        obtain ⟨i, nl, cl, L, l, hi, rfl, rfl, hnl, hO, hgo, hll, hbl⟩ := hrel
        obtain ⟨hlnl, hlc, hlc2⟩ := hO.out.len'
        have HLN := Lib.hid hlnl
        have hwr := hbl.out.size
        clear hlnl
        by_cases hlt2 : i < m
        · obtain ⟨b, off, kd, X, nx, cx, xs, X2, n2, c2, i3, i4, i5, X6, n6, c6, i7, i8, hBe, hb, s0, s1, -, -, -, -, -, -, -, hkd, hxs, hrk⟩ := (V.out.keep hbl.out).round hlt2
          subst hBe
          obtain ⟨hkk, hxl⟩ := HS.out (kd, xs) (List.mem_of_getElem? hrk.out)
          have HXL := Lib.hid hxl
          have HXS := Lib.hid hxs
          have HXB : Hid (∀ q ∈ xs, -1000000 ≤ q ∧ q ≤ 1000000) := fun q hq => by have := hxl.1 q hq; omega
          have hnx : nx ≤ 120 := by have h1 := hxl.len_le v0; have h2 := hxs.len; simp at h1; omega
          have y1 : (0 : Int) ≤ (i : Int) := by omega
          have y2 : (i : Int) < (m : Int) := by omega
          have hgo2 : Hid ((if kd = 1 then (if fallsF vars l xs then refF vars m (l ++ [sortF xs]) (rs.drop (i + 1)) (i + 1) else (i : Int)) else (if sortF xs ∈ l then refF vars m (l.erase (sortF xs)) (rs.drop (i + 1)) (i + 1) else (i : Int))) = z) := by have := hgo.out; rw [drop_cons_of hrk.out, refF] at this; exact this
          clear hgo hxs hxl
          go_wp2_with fail
          refine (sorted_ref _ _ _ xs _ HXS.out HXB.out (by omega)).mono ?_
          rintro e w3 ⟨S3, ns3, cs3, rfl, hO3, hb3⟩
          have I3 := Lib.hid (hO3.ints (fun q hq => (by have := HXB.out q (sortF_mem.1 hq); unfold I64; omega)))
          have OS3 := Lib.hid hO3
          have O3 := Lib.hid (hO.out.keep hb3)
          have X3 := Lib.hid (HXS.out.keep hb3)
          have BL3 := Lib.hid (below_next hbl.out hb3)
          have hw3 := BL3.out.size
          have t0 := keepBox hb3 s0
          have t1 := keepBox hb3 s1
          have lb3 := (cell_lt t0).1
          clear hO3 hb3 s0 s1 hb
          rcases hkk with rfl | rfl
          · obtain ⟨q, hfq⟩ : ∃ q, Hid (fallsF vars l xs = q) := ⟨_, rfl⟩
            have hgo3 : Hid ((if q then refF vars m (l ++ [sortF xs]) (rs.drop (i + 1)) (i + 1) else (i : Int)) = z) := by have := hgo2.out; rw [if_pos rfl, hfq.out] at this; exact this
            clear hgo2
            go_wp2_with fail
            refine (fallsR_any _ _ _ _ _ _ l xs vars _ O3.out.grid X3.out v0 (by omega) hll.out HXL.out q hfq).mono ?_
            rintro e w4 ⟨rfl, hb4⟩
            have O4 := Lib.hid (O3.out.keep hb4)
            have I4 := Lib.hid (I3.out.keep hb4)
            have OS4 := Lib.hid (OS3.out.keep hb4)
            have BL4 := Lib.hid (below_next BL3.out hb4)
            have hw4 := BL4.out.size
            clear hb4 t0 t1 lb3
            cases q
            · obtain rfl : (i : Int) = z := by have := hgo3.out; simpa using this
              go_wp2_with fail
              go_ret
              exact ⟨rfl, below_next HB.out BL4.out⟩
            · have hgo4 : Hid (refF vars m (l ++ [sortF xs]) (rs.drop (i + 1)) (i + 1) = z) := by have := hgo3.out; simpa [Hid] using this
              obtain ⟨vs, hv1, hv2⟩ := O4.out
              have HV1 := Lib.hid (hv1.keep (below_new w4 (.cells #[.slice S3 ns3 cs3] 25)))
              have HV2 := Lib.hid (hv2.keep (below_new w4 (.cells #[.slice S3 ns3 cs3] 25)))
              have hSS := sl_one w4 25 (.slice S3 ns3 cs3) rfl
              clear hv1 hv2
              go_wp2_with (first
                | (at_builtin
                   refine wpList_append_sl _ rfl (.tmp 56) (.tmp 58) _ rfl w0.heap.size 25 i0 _ 24 Try.underlying22 hi0 hz0 hz1 hz2 rfl L nl cl _ rfl HV1.out (some ⟨w4.heap.size, 0, none⟩) 1 1 _ rfl hSS (by simp [Value.oneCell']) (by simp only [maxLen]; omega) (by omega) (by simp; omega) ?_
                   intro L1 cL1 w6 hL1 hg1 hat1
                   have HP6 := Lib.hid (OwnP.push HV1.out HV2.out (Nat.zero_le _) row_ne (I4.out.keep (below_new _ _)) (Away.own (OS4.out.keep (below_new _ _))) hL1 hg1)
                   have HB6 := Lib.hid (below_grown (below_alloc BL4.out (.cells #[.slice S3 ns3 cs3] 25)) HV1.out (Nat.le_refl _) hg1)
                   clear hL1 hg1 hat1))
              go_roundw
              case rel => exact ⟨i + 1, nl + 1, cL1, L1, l ++ [sortF xs], by omega, rfl, by go_num, by omega, HP6, hgo4, snoc_lits hll.out HXL.out.sortF, HB6⟩
              case measure => simp [intOf]; omega
          · obtain ⟨l2, g2, hlf⟩ : ∃ l2 g2, Hid (leftF (sortF xs) l false [] = (l2, g2)) := ⟨_, _, rfl⟩
            have hgo3 : Hid ((if g2 then refF vars m l2 (rs.drop (i + 1)) (i + 1) else (i : Int)) = z) := by
              have h1 := hgo2.out
              have h2 := hlf.out
              rw [if_neg (by decide)] at h1
              rw [leftF_eq] at h2
              by_cases h3 : sortF xs ∈ l
              · rw [if_pos h3] at h1 h2
                obtain ⟨h4, h5⟩ := Prod.mk.inj h2
                rw [← h5, ← h4]
                simpa [Hid] using h1
              · rw [if_neg h3] at h1 h2
                obtain ⟨h4, h5⟩ := Prod.mk.inj h2
                rw [← h5]
                simpa [Hid] using h1
            have hl2 : Hid (∀ x ∈ l2, Lits vars x) := by
              have h2 := hlf.out
              rw [leftF_eq] at h2
              by_cases h3 : sortF xs ∈ l
              · rw [if_pos h3] at h2
                rw [← (Prod.mk.inj h2).1]
                exact fun x hx => hll.out x (List.mem_of_mem_erase (by simpa using hx))
              · rw [if_neg h3] at h2
                rw [← (Prod.mk.inj h2).1]
                exact fun x hx => hll.out x (by simpa using hx)
            obtain ⟨wc, hwc⟩ : ∃ wc : World, wc = w3 := ⟨_, rfl⟩
            subst hwc
            clear hgo2
            go_wp2_with fail
            go_loopw [9, 10, 11] (fun s9 s10 s11 wr => ∃ (j no co : Nat) (Lo : Option Addr) (o : List (List Int)) (gn : Bool), j ≤ nl ∧ no ≤ j ∧ s9 = .slice Lo no co ∧ s10 = .bool gn ∧ s11 = .int .i64 j ∧ Hid (OwnP 25 3 wr wc.heap.size 0 Lo no co o) ∧ Hid (leftF (sortF xs) (l.drop j) gn o = (l2, g2)) ∧ Hid (Below wc.heap.size wc wr)) (fun _ _ s _ => nl - (intOf s).toNat)
            case atStart => exact ⟨0, 0, 0, none, [], false, Nat.zero_le _, Nat.le_refl _, rfl, rfl, rfl, OwnP.nil _ _ _ _ _, hlf, Below.refl _ _⟩
            case round =>
              obtain ⟨j, no, co, Lo, o, gn, hj, hno, rfl, rfl, rfl, hOo, hgj, hbj⟩ := hrel
              have hwj := hbj.out.size
              by_cases hlj : j < nl
              · obtain ⟨gl, Y, ny, cy, y, hLe, hg1, hg2, hcy, _, hyi, _, hyk⟩ := (O3.out.keep hbj.out).round hlj
                subst hLe
                have hyl := hll.out y (List.mem_of_getElem? hyk.out)
                have HYI := Lib.hid hyi
                have u1 : (0 : Int) ≤ (j : Int) := by omega
                have u2 : (j : Int) < (nl : Int) := by omega
                obtain ⟨vo, hvo1, hvo2⟩ := hOo.out
                have hgj2 : Hid ((if !gn && sameB y (sortF xs) then leftF (sortF xs) (l.drop (j + 1)) true o else leftF (sortF xs) (l.drop (j + 1)) gn (o ++ [y])) = (l2, g2)) := by have := hgj.out; rw [drop_cons_of hyk.out, leftF] at this; exact this
                have AY : Hid (Away 3 wr 0 Y ny) := by
                  obtain ⟨gl', Y', ny', cy', y', hLe', _, _, hcy', _, _, ha, _⟩ := (O3.out.keep hbj.out).round hlj
                  cases hLe'
                  rw [hcy] at hcy'
                  cases hcy'
                  exact ha
                clear hyi hyl hgj
                cases gn
                · obtain ⟨r, hr⟩ : ∃ r, Hid (sameB y (sortF xs) = r) := ⟨_, rfl⟩
                  have hgj3 : Hid ((if r then leftF (sortF xs) (l.drop (j + 1)) true o else leftF (sortF xs) (l.drop (j + 1)) false (o ++ [y])) = (l2, g2)) := by have := hgj2.out; rw [hr.out] at this; simpa [Hid] using this
                  clear hgj2
                  go_wp2_with fail
                  refine ((same_any _ _ _ _ _ _ y (sortF xs) _ HYI.out (I3.out.keep hbj.out) r hr).mono (fun _ _ hh => hh.v)).mono ?_
                  rintro e w5 ⟨rfl, hb5⟩
                  have HVo1 := Lib.hid (hvo1.keep hb5)
                  have HVo2 := Lib.hid (hvo2.keep hb5)
                  have Oo5 := Lib.hid (hOo.out.keep hb5)
                  have BJ5 := Lib.hid (below_next hbj.out hb5)
                  have HY5 := Lib.hid (HYI.out.keep hb5)
                  have AY5 := Lib.hid (AY.out.keep hb5)
                  have hcy5 := keepBox hb5 hcy
                  have lg5 := (cell_lt hcy5).1
                  have hw5 := BJ5.out.size
                  clear hb5 hcy hg2 hvo1 hvo2
                  cases r
                  · have hgj4 : Hid (leftF (sortF xs) (l.drop (j + 1)) false (o ++ [y]) = (l2, g2)) := by have := hgj3.out; simpa [Hid] using this
                    have HV1 := Lib.hid (HVo1.out.keep (below_new w5 (.cells #[.slice Y ny cy] 25)))
                    have HV2 := Lib.hid (HVo2.out.keep (below_new w5 (.cells #[.slice Y ny cy] 25)))
                    have hSS := sl_one w5 25 (.slice Y ny cy) rfl
                    go_wp2_with (first
                      | (at_builtin
                         refine wpList_append_sl _ rfl (.tmp 76) (.tmp 81) _ rfl wc.heap.size 25 i0 _ 24 Try.underlying22 hi0 hz0 hz1 hz2 rfl Lo no co _ rfl HV1.out (some ⟨w5.heap.size, 0, none⟩) 1 1 _ rfl hSS (by simp [Value.oneCell']) (by simp only [maxLen]; omega) (by omega) (by simp; omega) ?_
                         intro L1 cL1 w6 hL1 hg1' hat1
                         have HP6 := Lib.hid (OwnP.push HV1.out HV2.out (Nat.zero_le _) row_ne (HY5.out.keep (below_new _ _)) (AY5.out.keep (below_new _ _)) hL1 hg1')
                         have HB6 := Lib.hid (below_grown (below_alloc BJ5.out (.cells #[.slice Y ny cy] 25)) HV1.out (Nat.le_refl _) hg1')
                         clear hL1 hg1' hat1))
                    go_roundw
                    case rel => exact ⟨j + 1, no + 1, cL1, L1, o ++ [y], false, by omega, by omega, rfl, rfl, by go_num, HP6, hgj4, HB6⟩
                    case measure => simp [intOf]; omega
                  · have hgj4 : Hid (leftF (sortF xs) (l.drop (j + 1)) true o = (l2, g2)) := by have := hgj3.out; simpa [Hid] using this
                    go_wp2_with fail
                    go_roundw
                    case rel => exact ⟨j + 1, no, co, Lo, o, true, by omega, by omega, rfl, rfl, by go_num, Oo5, hgj4, BJ5⟩
                    case measure => simp [intOf]; omega
                · have hgj4 : Hid (leftF (sortF xs) (l.drop (j + 1)) true (o ++ [y]) = (l2, g2)) := by have := hgj2.out; simpa [Hid] using this
                  obtain ⟨w5, hw5e⟩ : ∃ w5 : World, w5 = wr := ⟨_, rfl⟩
                  subst hw5e
                  have HVo1 := Lib.hid hvo1
                  have HVo2 := Lib.hid hvo2
                  have BJ5 := Lib.hid hbj.out
                  have HY5 := HYI
                  have AY5 := AY
                  have hw5 := BJ5.out.size
                  clear hgj2 hvo1 hvo2
                  have HV1 := Lib.hid (HVo1.out.keep (below_new w5 (.cells #[.slice Y ny cy] 25)))
                  have HV2 := Lib.hid (HVo2.out.keep (below_new w5 (.cells #[.slice Y ny cy] 25)))
                  have hSS := sl_one w5 25 (.slice Y ny cy) rfl
                  go_wp2_with (first
                    | (at_builtin
                       refine wpList_append_sl _ rfl (.tmp 76) (.tmp 81) _ rfl wc.heap.size 25 i0 _ 24 Try.underlying22 hi0 hz0 hz1 hz2 rfl Lo no co _ rfl HV1.out (some ⟨w5.heap.size, 0, none⟩) 1 1 _ rfl hSS (by simp [Value.oneCell']) (by simp only [maxLen]; omega) (by omega) (by simp; omega) ?_
                       intro L1 cL1 w6 hL1 hg1' hat1
                       have HP6 := Lib.hid (OwnP.push HV1.out HV2.out (Nat.zero_le _) row_ne (HY5.out.keep (below_new _ _)) (AY5.out.keep (below_new _ _)) hL1 hg1')
                       have HB6 := Lib.hid (below_grown (below_alloc BJ5.out (.cells #[.slice Y ny cy] 25)) HV1.out (Nat.le_refl _) hg1')
                       clear hL1 hg1' hat1))
                  go_roundw
                  case rel => exact ⟨j + 1, no + 1, cL1, L1, o ++ [y], true, by omega, by omega, rfl, rfl, by go_num, HP6, hgj4, HB6⟩
                  case measure => simp [intOf]; omega
              · obtain rfl : j = nl := by omega
                have hlo : Hid (leftF (sortF xs) [] gn o = (l2, g2)) := by have := hgj.out; rw [List.drop_of_length_le (by rw [HLN.out]; omega)] at this; exact this
                obtain ⟨rfl, rfl⟩ : o = l2 ∧ gn = g2 := by have := hlo.out; rw [leftF] at this; simpa using this
                have BW := Lib.hid (below_next BL3.out hbj.out)
                clear hlo hgj
                cases gn
                · obtain rfl : (i : Int) = z := by have := hgo3.out; simpa using this
                  go_wp2_with fail
                  go_ret
                  exact ⟨rfl, below_next HB.out BW.out⟩
                · have hgo4 : Hid (refF vars m o (rs.drop (i + 1)) (i + 1) = z) := by have := hgo3.out; simpa [Hid] using this
                  go_wp2_with fail
                  go_roundw
                  case rel => exact ⟨i + 1, no, co, Lo, o, by omega, rfl, by go_num, by omega, hOo.out.mono hw3 (Nat.le_refl _), hgo4, hl2, BW⟩
                  case measure => simp [intOf]; omega
        · obtain rfl : i = m := by omega
          have hgo2 : Hid ((if l.any (fun x => x.isEmpty) then (-1 : Int) else (i : Int)) = z) := by have := hgo.out; rw [List.drop_of_length_le (by rw [hlr.out]; omega), refF] at this; exact this
          obtain ⟨wc, hwc⟩ : ∃ wc : World, wc = wr := ⟨_, rfl⟩
          subst hwc
          have BW := Lib.hid (below_next HB.out hbl.out)
          clear hgo
          go_wp2_with fail
          go_loopw [12] (fun s wr => ∃ j : Nat, j ≤ nl ∧ s = .int .i64 j ∧ Hid ((if (l.drop j).any (fun x => x.isEmpty) then (-1 : Int) else (i : Int)) = z) ∧ Hid (wr = wc)) (fun s _ => nl - (intOf s).toNat)
          case atStart => exact ⟨0, Nat.zero_le _, rfl, hgo2, rfl⟩
          case round =>
            obtain ⟨j, hj, rfl, hgj, hwj⟩ := hrel
            rw [hwj.out]
            by_cases hlj : j < nl
            · obtain ⟨gl, Y, ny, cy, y, hLe, hg1, hg2, hcy, _, hyi, _, hyk⟩ := hO.out.round hlj
              subst hLe
              have hly := hyi.len
              have u1 : (0 : Int) ≤ (j : Int) := by omega
              have u2 : (j : Int) < (nl : Int) := by omega
              have hbdy := hyi.bd
              have HWJ := hwj
              by_cases hn0 : ny = 0
              · subst hn0
                obtain rfl : y = [] := List.eq_nil_of_length_eq_zero hly
                obtain rfl : -1 = z := by have := hgj.out; rw [drop_cons_of hyk.out] at this; simpa using this
                go_wp2_with fail
                go_ret
                exact ⟨rfl, BW.out⟩
              · have d1 : ((ny : Int) == 0) = false := by simp; omega
                have hye : y.isEmpty = false := by rw [Bool.eq_false_iff]; intro e; rw [List.isEmpty_iff_length_eq_zero] at e; omega
                have hgj2 : Hid ((if (l.drop (j + 1)).any (fun x => x.isEmpty) then (-1 : Int) else (i : Int)) = z) := by have := hgj.out; rw [drop_cons_of hyk.out, List.any_cons, hye, Bool.false_or] at this; exact this
                clear hgj hyi hly
                go_wp2_with fail
                go_roundw
                case rel => exact ⟨j + 1, by omega, by go_num, hgj2, by first | rfl | trivial⟩
                case measure => simp [intOf]; omega
            · obtain rfl : j = nl := by omega
              obtain rfl : (i : Int) = z := by have := hgj.out; rw [List.drop_of_length_le (by rw [HLN.out]; omega)] at this; simpa using this
              go_wp2_with fail
              go_ret
              exact ⟨rfl, BW.out⟩
end Go.Proofs.Ytabjbpkojbdgaaa

/- Contract of the law's proof. (Printed by wip/tools/prooflaw.py.) -/
namespace Go.Proofs.Ytabjbpkojbdgaaa
open Go.RowKit
set_option linter.unusedSimpArgs false

set_option maxHeartbeats 4000000 in
set_option maxRecDepth 100000 in
theorem proofLaw_any (A B : Option Addr) (n c m d : Nat) (xss : List (List Int)) (rs : List (Int × List Int)) (vars : Int) (w : World) (h : Grid w A n c xss) (hv : I64 vars) (h' : Steps w B m d rs) (r1 r2 : Int) (hr : Hid (proofR vars xss rs = (r1, r2))) :
    Calls Try.prog 33 #[.agg #[.int .i64 vars, .slice A n c], .slice B m d] w (RetV (.agg #[.int .i64 r1, .int .i64 r2]) w) := by
  obtain ⟨p1, p2, hp⟩ : ∃ p1 p2, Hid (stepsR vars xss rs = (p1, p2)) := ⟨_, _, rfl⟩
  have hlen := Lib.hid h.len
  have hlv := Lib.hid h'.len
  have G := Lib.hid h
  have V := Lib.hid h'
  clear h h'
  by_cases hp1 : p1 = 0
  · subst hp1
    obtain ⟨hst, hck, hm3', hrs⟩ := stepsR_ok (vars := vars) (xss := xss) (rs := rs) (by rw [hp.out])
    obtain rfl : p2 = 0 := by rw [hp.out] at hst; exact (Prod.mk.inj hst).2
    obtain ⟨_, v0, v1, hn400, hrows⟩ := checkC_ok hck
    have hn4 : n ≤ 400 := by have := hlen.out; omega
    have hm3 : m ≤ 3000 := by have := hlv.out; omega
    have HC : Hid (∀ x ∈ xss, Lits vars x) := fun x hx => (hrows x hx).2
    have HRS : Hid (∀ r ∈ rs, (r.1 = 1 ∨ r.1 = 2) ∧ Lits vars r.2) := hrs
    obtain ⟨z, hz⟩ : ∃ z, Hid (whyF vars m xss rs 0 = z) := ⟨_, rfl⟩
    have hr2 : Hid ((if z ≠ -1 then ((11 : Int), z) else (0, 0)) = (r1, r2)) := by
      have := hr.out
      have hw : whyS vars xss rs = (z, 0, 0) := by rw [whyS, hp.out, if_neg (by simp), hlv.out, hz.out]
      rw [proofR, hw, if_neg (by simp)] at this
      exact this
    clear hst hck hm3' hrs hn400 hrows hr
    go_enter Try.func33, Try.ntmps33
    go_wp2_with fail
    refine (stepsWrong_any _ _ _ _ _ _ xss rs vars _ (G.out.keep (below_alloc (below_new _ _) _)) hv (V.out.keep (below_alloc (below_new _ _) _)) _ _ hp).mono ?_
    rintro e w1 ⟨rfl, hb1⟩
    obtain ⟨K_c0, K_r0, B_w1, l_w1⟩ := two_blks hb1
    replace G := Lib.hid (G.out.keep B_w1)
    replace V := Lib.hid (V.out.keep B_w1)
    have HB := Lib.hid B_w1
    have K_c := Lib.hid K_c0
    have K_r := Lib.hid K_r0
    clear hb1 B_w1 K_c0 K_r0
    have cK_c_0 := K_c.out.cell 0
    have cK_c_1 := K_c.out.cell 1
    simp at cK_c_0 cK_c_1
    have zK_c := K_c.out.lt
    have cK_r_0 := K_r.out.cell 0
    have cK_r_1 := K_r.out.cell 1
    simp at cK_r_0 cK_r_1
    have zK_r := K_r.out.lt
    go_wp2_with fail
    refine (refused_any _ _ _ _ _ _ xss rs vars _ (G.out.keep (below_new _ _)) (V.out.keep (below_new _ _)) v0 v1 hn4 hm3 HC.out HRS.out z hz).mono ?_
    rintro e w2 ⟨rfl, hb2⟩
    obtain ⟨K_x0, B_w2, l_w2⟩ := blk1 hb2
    replace G := Lib.hid (G.out.keep B_w2)
    replace V := Lib.hid (V.out.keep B_w2)
    replace K_c := Lib.hid (K_c.out.keep B_w2)
    replace K_r := Lib.hid (K_r.out.keep B_w2)
    replace HB := Lib.hid (below_next HB.out B_w2)
    have K_x := Lib.hid K_x0
    clear hb2 B_w2 K_x0
    clear cK_c_0 cK_c_1 zK_c cK_r_0 cK_r_1 zK_r
    have cK_c_0 := K_c.out.cell 0
    have cK_c_1 := K_c.out.cell 1
    simp at cK_c_0 cK_c_1
    have zK_c := K_c.out.lt
    have cK_r_0 := K_r.out.cell 0
    have cK_r_1 := K_r.out.cell 1
    simp at cK_r_0 cK_r_1
    have zK_r := K_r.out.lt
    have cK_x_0 := K_x.out.cell 0
    have cK_x_1 := K_x.out.cell 1
    simp at cK_x_0 cK_x_1
    have zK_x := K_x.out.lt
    by_cases hz1 : z = -1
    · subst hz1
      obtain ⟨rfl, rfl⟩ : 0 = r1 ∧ 0 = r2 := by have := hr2.out; rw [if_neg (by simp)] at this; simpa using this
      have fK_r_0 := K_r.out.frozen 0
      have fK_r_1 := K_r.out.frozen 1
      have KR := K_r
      obtain ⟨q0, q1⟩ := KR.out.put2 (.int .i64 0) (.int .i64 0)
      have Q0 := Lib.hid q0
      have Q1 := Lib.hid q1
      have BF := Lib.hid (below_put2 HB.out (g := w.heap.size + 1) (by omega) (.int .i64 0) (.int .i64 0))
      clear q0 q1
      go_wp2_with fail
      exact bodyPost_ret (v := .agg #[.int .i64 0, .int .i64 0]) (by simp [results, Try.results33, go_sem, Q0.out, Q1.out, zK_r]) rfl ⟨rfl, BF.out⟩
    · obtain ⟨rfl, rfl⟩ : 11 = r1 ∧ z = r2 := by have := hr2.out; rw [if_pos hz1] at this; simpa using this
      have dz : (z == -1) = false := by rw [beq_eq_false_iff_ne]; exact hz1
      have dz2 : (z != -1) = true := by simpa using hz1
      go_wp2_with fail
      refine (refused_any _ _ _ _ _ _ xss rs vars _ G.out V.out v0 v1 hn4 hm3 HC.out HRS.out z hz).mono ?_
      rintro e w3 ⟨rfl, hb3⟩
      have B_w3 := hb3
      replace G := Lib.hid (G.out.keep B_w3)
      replace V := Lib.hid (V.out.keep B_w3)
      replace K_c := Lib.hid (K_c.out.keep B_w3)
      replace K_r := Lib.hid (K_r.out.keep B_w3)
      replace K_x := Lib.hid (K_x.out.keep B_w3)
      replace HB := Lib.hid (below_next HB.out B_w3)
      clear hb3 B_w3
      clear cK_c_0 cK_c_1 zK_c cK_r_0 cK_r_1 zK_r cK_x_0 cK_x_1 zK_x
      have cK_c_0 := K_c.out.cell 0
      have cK_c_1 := K_c.out.cell 1
      simp at cK_c_0 cK_c_1
      have zK_c := K_c.out.lt
      have cK_r_0 := K_r.out.cell 0
      have cK_r_1 := K_r.out.cell 1
      simp at cK_r_0 cK_r_1
      have zK_r := K_r.out.lt
      have cK_x_0 := K_x.out.cell 0
      have cK_x_1 := K_x.out.cell 1
      simp at cK_x_0 cK_x_1
      have zK_x := K_x.out.lt
      have fK_r_0 := K_r.out.frozen 0
      have fK_r_1 := K_r.out.frozen 1
      have fK_x_0 := K_x.out.frozen 0
      have fK_x_1 := K_x.out.frozen 1
      have hkr : w.heap.size + 1 ≠ w1.heap.size := by omega
      have KF := (K_r.out.far (p := ⟨w1.heap.size, 0, none⟩) hkr (.int .i64 11)).far (p := ⟨w1.heap.size, 1, none⟩) hkr (.int .i64 z)
      obtain ⟨q0, q1⟩ := KF.put2 (.int .i64 11) (.int .i64 z)
      have Q0 := Lib.hid q0
      have Q1 := Lib.hid q1
      have BF := Lib.hid (below_put2 (below_put2 HB.out (g := w1.heap.size) (by omega) (.int .i64 11) (.int .i64 z)) (g := w.heap.size + 1) (by omega) (.int .i64 11) (.int .i64 z))
      clear q0 q1 KF
      go_wp2_with fail
      exact bodyPost_ret (v := .agg #[.int .i64 11, .int .i64 z]) (by simp [results, Try.results33, go_sem, Q0.out, Q1.out, zK_r]) rfl ⟨rfl, BF.out⟩
  · obtain ⟨rfl, rfl⟩ : p1 = r1 ∧ p2 = r2 := by
      have := hr.out
      rw [proofR, whyS, hp.out, if_pos hp1, if_pos hp1] at this
      simpa using this
    go_enter Try.func33, Try.ntmps33
    go_wp2_with fail
    refine (stepsWrong_any _ _ _ _ _ _ xss rs vars _ (G.out.keep (below_alloc (below_new _ _) _)) hv (V.out.keep (below_alloc (below_new _ _) _)) _ _ hp).mono ?_
    rintro e w1 ⟨rfl, hb1⟩
    obtain ⟨K_c0, K_r0, B_w1, l_w1⟩ := two_blks hb1
    replace G := Lib.hid (G.out.keep B_w1)
    replace V := Lib.hid (V.out.keep B_w1)
    have HB := Lib.hid B_w1
    have K_c := Lib.hid K_c0
    have K_r := Lib.hid K_r0
    clear hb1 B_w1 K_c0 K_r0
    have cK_c_0 := K_c.out.cell 0
    have cK_c_1 := K_c.out.cell 1
    simp at cK_c_0 cK_c_1
    have zK_c := K_c.out.lt
    have cK_r_0 := K_r.out.cell 0
    have cK_r_1 := K_r.out.cell 1
    simp at cK_r_0 cK_r_1
    have zK_r := K_r.out.lt
    have fK_r_0 := K_r.out.frozen 0
    have fK_r_1 := K_r.out.frozen 1
    have dp : (p1 == 0) = false := by rw [beq_eq_false_iff_ne]; exact hp1
    have KR := K_r
    obtain ⟨q0, q1⟩ := KR.out.put2 (.int .i64 p1) (.int .i64 p2)
    have Q0 := Lib.hid q0
    have Q1 := Lib.hid q1
    have BF := Lib.hid (below_put2 HB.out (g := w.heap.size + 1) (by omega) (.int .i64 p1) (.int .i64 p2))
    clear q0 q1
    go_wp2_with fail
    exact bodyPost_ret (v := .agg #[.int .i64 p1, .int .i64 p2]) (by simp [results, Try.results33, go_sem, Q0.out, Q1.out, zK_r]) rfl ⟨rfl, below_alloc BF.out _⟩
end Go.Proofs.Ytabjbpkojbdgaaa

/- Contracts of the law's against, end. -/
namespace Go.Proofs.Ytabjbpkojbdgaaa
open Go.RowKit
set_option linter.unusedSimpArgs false

theorem grid3 {w : World} {A A' A'' : Option Addr} {n c n' c' n'' c'' : Nat} {xs ys zs : List Int} (t : TypeId) {b : Nat} (hb : b = w.heap.size) (h : Ints w A n c xs) (h' : Ints w A' n' c' ys) (h'' : Ints w A'' n'' c'' zs) : Grid (w.alloc (.cells #[.slice A n c, .slice A' n' c', .slice A'' n'' c''] t)) (some ⟨b, 0, none⟩) 3 3 [xs, ys, zs] :=
  grid_made w t [.slice A n c, .slice A' n' c', .slice A'' n'' c''] [xs, ys, zs] hb (by simp [maxLen]) rfl fun k v hv => by
    match k with
    | 0 => simp at hv; subst hv; exact ⟨_, _, _, _, rfl, rfl, h⟩
    | 1 => simp at hv; subst hv; exact ⟨_, _, _, _, rfl, rfl, h'⟩
    | 2 => simp at hv; subst hv; exact ⟨_, _, _, _, rfl, rfl, h''⟩
    | k + 3 => simp at hv
set_option maxHeartbeats 400000 in
theorem against_any (w : World) : Calls Try.prog 31 #[] w (RetCnf 2 [[1, 2], [-1], [-2]] w) := by
  go_enter Try.func31, Try.ntmps31
  go_wp2_with fail
  have h1 := ints_made (w.alloc (.cells #[.int .i64 2, .slice (some ⟨w.heap.size + 1 + 1 + 1 + 1, 0, none⟩) 3 3] 24)) 3 [1, 2] (b := w.heap.size + 1) (by simp) (by simp [I64]) (by decide)
  have h2 := ints_made ((w.alloc (.cells #[.int .i64 2, .slice (some ⟨w.heap.size + 1 + 1 + 1 + 1, 0, none⟩) 3 3] 24)).alloc (.cells #[.int .i64 1, .int .i64 2] 3)) 3 [-1] (b := w.heap.size + 1 + 1) (by simp) (by simp [I64]) (by decide)
  have h3 := ints_made (((w.alloc (.cells #[.int .i64 2, .slice (some ⟨w.heap.size + 1 + 1 + 1 + 1, 0, none⟩) 3 3] 24)).alloc (.cells #[.int .i64 1, .int .i64 2] 3)).alloc (.cells #[.int .i64 (-1)] 3)) 3 [-2] (b := w.heap.size + 1 + 1 + 1) (by simp) (by simp [I64]) (by decide)
  exact bodyPost_ret (v := .agg #[.int .i64 2, .slice (some ⟨w.heap.size + 1 + 1 + 1 + 1, 0, none⟩) 3 3]) (by simp [results, Try.results31, go_sem]) rfl
    ⟨_, _, _, rfl, grid3 25 (by simp) ((h1.keep (below_new _ _)).keep (below_new _ _)) (h2.keep (below_new _ _)) h3, below_alloc (below_alloc (below_alloc (below_alloc (below_new _ _) _) _) _) _⟩
/-- One step that learns the clause without literals. -/
theorem end_any (w : World) : Calls Try.prog 32 #[] w fun e w' => ∃ A n c, e = .returned (.slice A n c) ∧ Steps w' A n c [(1, [])] ∧ Below w.heap.size w w' := by
  go_enter Try.func32, Try.ntmps32
  go_wp2_with fail
  go_ret
  refine ⟨some ⟨w.heap.size, 0, none⟩, 1, 1, rfl, ⟨rfl, Nat.le_refl _, by simp [maxLen], fun _ => ⟨w.heap.size, 0, rfl, by simp, fun k r hk => ?_⟩, by simp [I64]⟩, below_new _ _⟩
  match k, hk with
  | 0, hk =>
    simp at hk
    subst hk
    exact ⟨none, 0, 0, none, 0, 0, 0, 0, 0, none, 0, 0, 0, 0, by simp [go_sem], by simp [go_sem], by simp [go_sem], by simp [go_sem], by simp [go_sem], by simp [go_sem], by simp [go_sem], by simp [go_sem], by simp [go_sem], ints_nil _⟩
  | k + 1, hk => simp at hk
theorem why_end : whyS 2 [[1, 2], [-1], [-2]] [(1, [])] = (-1, 0, 0) := by decide
end Go.Proofs.Ytabjbpkojbdgaaa

/- Contract of the law's heavy. -/
namespace Go.Proofs.Ytabjbpkojbdgaaa
open Go.RowKit

theorem heavy_any (A : Option Addr) (n c : Nat) (vars : Int) (w : World) (hn : n ≤ 9223372036854775807) (r : Bool) (hr : Hid ((decide (40 < vars) || decide (60 < (n : Int))) = r)) :
    Calls Try.prog 12 #[.agg #[.int .i64 vars, .slice A n c]] w (RetV (.bool r) w) := by
  by_cases h1 : 40 < vars
  · have d1 : decide (40 < vars) = true := decide_eq_true h1
    have : true = r := by rw [← hr.out, d1]; rfl
    subst this
    go_enter Try.func12, Try.ntmps12
    go_wp2_with fail
    go_ret
    exact ⟨rfl, below_new _ _⟩
  · have d1 : decide (40 < vars) = false := decide_eq_false h1
    by_cases h2 : 60 < (n : Int)
    · have d2 : decide (60 < (n : Int)) = true := decide_eq_true h2
      have : true = r := by rw [← hr.out, d1, d2]; rfl
      subst this
      have h3 : 60 < n := by omega
      go_enter Try.func12, Try.ntmps12
      go_wp2_with fail
      go_ret
      exact ⟨rfl, below_new _ _⟩
    · have d2 : decide (60 < (n : Int)) = false := decide_eq_false h2
      have : false = r := by rw [← hr.out, d1, d2]; rfl
      subst this
      have h3 : ¬ 60 < n := by omega
      go_enter Try.func12, Try.ntmps12
      go_wp2_with fail
      go_ret
      exact ⟨rfl, below_new _ _⟩
end Go.Proofs.Ytabjbpkojbdgaaa

/- The walk of ResOfs: it returns true. (Printed by wip/tools/resofs.py.) -/
namespace Go.Proofs.Ytabjbpkojbdgaaa
open Go.RowKit
set_option linter.unusedSimpArgs false

theorem ago_proof : proofR 2 [[1, 2], [-1], [-2]] [(1, [])] = (0, 0) := by decide
theorem ago_of : ofF 2 [[1, 2], [-1], [-2]] [(1, [])] = some [(0, 2, 2), (3, 1, 1)] := by decide
theorem un_plain {vars : Int} {xss : List (List Int)} {rs : List (Int × List Int)} (hr : proofR vars xss rs = (0, 0)) : ofF vars xss rs = unF vars xss rs := by
  obtain ⟨_, hst0, hacc⟩ := proofR_parts hr
  obtain ⟨_, hck, _, hrs⟩ := stepsR_ok hst0
  obtain ⟨_, v0, _, _, hrows⟩ := checkC_ok hck
  exact (of_whole v0 (fun c hc => (hrows c hc).2) hrs hacc).1

set_option maxHeartbeats 8000000 in
set_option maxRecDepth 100000 in
theorem resOfs_walk {vars : Int} {A B : Option Addr} {n c m d : Nat} {xss : List (List Int)} {rs : List (Int × List Int)} (w : World) (hv : I64 vars) (h : Grid w A n c xss) (h' : Steps w B m d rs) :
    Calls Try.prog 10 #[.agg #[.int .i64 vars, .slice A n c], .slice B m d] w fun e w' => e = .returned (.bool true) ∧ Below w.heap.size w w' := by
  have hbd := h.bd
  have hbd' := h'.bd
  have hlen := Lib.hid h.len
  have hlv := Lib.hid h'.len
  have G := Lib.hid h
  have HV := Lib.hid h'
  have hn63 : n ≤ 9223372036854775807 := by omega
  obtain ⟨hvy, hhv⟩ : ∃ r, Hid ((decide (40 < vars) || decide (60 < (n : Int))) = r) := ⟨_, rfl⟩
  obtain ⟨r1, r2, hr⟩ : ∃ r1 r2, Hid (proofR vars xss rs = (r1, r2)) := ⟨_, _, rfl⟩
  clear h h'
  cases hvy
  rotate_left
  · go_enter Try.func10, Try.ntmps10
    go_wp2_with fail
    refine (heavy_any _ _ _ _ _ hn63 _ hhv).mono ?_
    rintro e w1 ⟨rfl, hb1⟩
    obtain ⟨K_c0, B_w1, l_w1⟩ := blk1 hb1
    replace G := Lib.hid (G.out.keep B_w1)
    replace HV := Lib.hid (HV.out.keep B_w1)
    have HB := Lib.hid B_w1
    have K_c := Lib.hid K_c0
    clear hb1 B_w1 K_c0
    have cK_c_0 := K_c.out.cell 0
    have cK_c_1 := K_c.out.cell 1
    simp at cK_c_0 cK_c_1
    have zK_c := K_c.out.lt
    go_wp2_with fail
    go_ret
    exact ⟨rfl, HB.out⟩
  by_cases hm8 : 60 < m
  · have dm : decide ((60 : Int) < (m : Int)) = true := by simp; omega
    go_enter Try.func10, Try.ntmps10
    go_wp2_with fail
    refine (heavy_any _ _ _ _ _ hn63 _ hhv).mono ?_
    rintro e w1 ⟨rfl, hb1⟩
    obtain ⟨K_c0, B_w1, l_w1⟩ := blk1 hb1
    replace G := Lib.hid (G.out.keep B_w1)
    replace HV := Lib.hid (HV.out.keep B_w1)
    have HB := Lib.hid B_w1
    have K_c := Lib.hid K_c0
    clear hb1 B_w1 K_c0
    have cK_c_0 := K_c.out.cell 0
    have cK_c_1 := K_c.out.cell 1
    simp at cK_c_0 cK_c_1
    have zK_c := K_c.out.lt
    go_wp2_with fail
    go_ret
    exact ⟨rfl, HB.out⟩
  have dm : decide ((60 : Int) < (m : Int)) = false := by simp; omega
  by_cases hr1 : r1 = 0
  · subst hr1
    obtain rfl : r2 = 0 := by
      have := hr.out
      rw [proofR] at this
      by_cases g1 : (whyS vars xss rs).2.1 ≠ 0
      · rw [if_pos g1] at this; exact absurd (by rw [this]) g1
      · rw [if_neg g1] at this
        by_cases g2 : (whyS vars xss rs).1 ≠ -1
        · rw [if_pos g2] at this; simp at this
        · rw [if_neg g2] at this; simpa using this.symm
    obtain ⟨R, hR⟩ : ∃ q, Hid (ofF vars xss rs = q) := ⟨_, rfl⟩
    have hU : Hid (unF vars xss rs = R) := by rw [← un_plain hr.out]; exact hR.out
    cases R
    · go_enter Try.func10, Try.ntmps10
      go_wp2_with fail
      refine (heavy_any _ _ _ _ _ hn63 _ hhv).mono ?_
      rintro e w1 ⟨rfl, hb1⟩
      obtain ⟨K_c0, B_w1, l_w1⟩ := blk1 hb1
      replace G := Lib.hid (G.out.keep B_w1)
      replace HV := Lib.hid (HV.out.keep B_w1)
      have HB := Lib.hid B_w1
      have K_c := Lib.hid K_c0
      clear hb1 B_w1 K_c0
      have cK_c_0 := K_c.out.cell 0
      have cK_c_1 := K_c.out.cell 1
      simp at cK_c_0 cK_c_1
      have zK_c := K_c.out.lt
      go_wp2_with fail
      refine (resOf_own _ _ _ _ _ _ xss rs vars _ G.out hv HV.out hr _ hR).mono ?_
      rintro e w2 ⟨rfl, hb2⟩
      have B_w2 := hb2
      replace G := Lib.hid (G.out.keep B_w2)
      replace HV := Lib.hid (HV.out.keep B_w2)
      replace K_c := Lib.hid (K_c.out.keep B_w2)
      replace HB := Lib.hid (below_next HB.out B_w2)
      clear hb2 B_w2
      clear cK_c_0 cK_c_1 zK_c
      have cK_c_0 := K_c.out.cell 0
      have cK_c_1 := K_c.out.cell 1
      simp at cK_c_0 cK_c_1
      have zK_c := K_c.out.lt
      go_wp2_with fail
      refine (against_any _).mono ?_
      rintro e w4 ⟨A5, n5, c5, rfl, hG5, hb4⟩
      obtain ⟨K_f0, B_w4, l_w4⟩ := blk1 hb4
      replace G := Lib.hid (G.out.keep B_w4)
      replace HV := Lib.hid (HV.out.keep B_w4)
      replace K_c := Lib.hid (K_c.out.keep B_w4)
      replace HB := Lib.hid (below_next HB.out B_w4)
      have K_f := Lib.hid K_f0
      clear hb4 B_w4 K_f0
      clear cK_c_0 cK_c_1 zK_c
      have cK_c_0 := K_c.out.cell 0
      have cK_c_1 := K_c.out.cell 1
      simp at cK_c_0 cK_c_1
      have zK_c := K_c.out.lt
      have cK_f_0 := K_f.out.cell 0
      have cK_f_1 := K_f.out.cell 1
      simp at cK_f_0 cK_f_1
      have zK_f := K_f.out.lt
      have GP := Lib.hid hG5
      clear hG5
      go_wp2_with fail
      refine (end_any _).mono ?_
      rintro e w5 ⟨A6, n6, c6, rfl, hS6, hb5⟩
      have B_w5 := hb5
      replace G := Lib.hid (G.out.keep B_w5)
      replace HV := Lib.hid (HV.out.keep B_w5)
      replace GP := Lib.hid (GP.out.keep B_w5)
      replace K_c := Lib.hid (K_c.out.keep B_w5)
      replace K_f := Lib.hid (K_f.out.keep B_w5)
      replace HB := Lib.hid (below_next HB.out B_w5)
      clear hb5 B_w5
      clear cK_c_0 cK_c_1 zK_c cK_f_0 cK_f_1 zK_f
      have cK_c_0 := K_c.out.cell 0
      have cK_c_1 := K_c.out.cell 1
      simp at cK_c_0 cK_c_1
      have zK_c := K_c.out.lt
      have cK_f_0 := K_f.out.cell 0
      have cK_f_1 := K_f.out.cell 1
      simp at cK_f_0 cK_f_1
      have zK_f := K_f.out.lt
      have SP := Lib.hid hS6
      clear hS6
      have hn5 : n5 = 3 := GP.out.len.symm
      subst hn5
      go_wp2_with fail
      refine (resOf_own _ _ _ _ _ _ [[1, 2], [-1], [-2]] [(1, [])] 2 _ GP.out ⟨by omega, by omega⟩ SP.out ago_proof _ ago_of).mono ?_
      rintro e w6 ⟨L6, nl6, cl6, rfl, hI6, hb6⟩
      have hl6 : nl6 = 2 := hI6.len.symm
      subst hl6
      clear hI6
      have B_w6 := hb6
      replace G := Lib.hid (G.out.keep B_w6)
      replace HV := Lib.hid (HV.out.keep B_w6)
      replace GP := Lib.hid (GP.out.keep B_w6)
      replace SP := Lib.hid (SP.out.keep B_w6)
      replace K_c := Lib.hid (K_c.out.keep B_w6)
      replace K_f := Lib.hid (K_f.out.keep B_w6)
      replace HB := Lib.hid (below_next HB.out B_w6)
      clear hb6 B_w6
      clear cK_c_0 cK_c_1 zK_c cK_f_0 cK_f_1 zK_f
      have cK_c_0 := K_c.out.cell 0
      have cK_c_1 := K_c.out.cell 1
      simp at cK_c_0 cK_c_1
      have zK_c := K_c.out.lt
      have cK_f_0 := K_f.out.cell 0
      have cK_f_1 := K_f.out.cell 1
      simp at cK_f_0 cK_f_1
      have zK_f := K_f.out.lt
      clear GP SP
      go_wp2_with fail
      refine (proofLaw_any _ _ _ _ _ _ xss rs vars _ (G.out.keep (below_new _ _)) hv (HV.out.keep (below_new _ _)) _ _ hr).mono ?_
      rintro e w8 ⟨rfl, hb8⟩
      obtain ⟨K_h0, B_w8, l_w8⟩ := blk1 hb8
      replace G := Lib.hid (G.out.keep B_w8)
      replace HV := Lib.hid (HV.out.keep B_w8)
      replace K_c := Lib.hid (K_c.out.keep B_w8)
      replace K_f := Lib.hid (K_f.out.keep B_w8)
      replace HB := Lib.hid (below_next HB.out B_w8)
      have K_h := Lib.hid K_h0
      clear hb8 B_w8 K_h0
      clear cK_c_0 cK_c_1 zK_c cK_f_0 cK_f_1 zK_f
      have cK_c_0 := K_c.out.cell 0
      have cK_c_1 := K_c.out.cell 1
      simp at cK_c_0 cK_c_1
      have zK_c := K_c.out.lt
      have cK_f_0 := K_f.out.cell 0
      have cK_f_1 := K_f.out.cell 1
      simp at cK_f_0 cK_f_1
      have zK_f := K_f.out.lt
      have cK_h_0 := K_h.out.cell 0
      have cK_h_1 := K_h.out.cell 1
      simp at cK_h_0 cK_h_1
      have zK_h := K_h.out.lt
      go_wp2_with fail
      refine (unfolded_ref _ _ _ _ _ _ xss rs vars _ (G.out.keep (below_new _ _)) (HV.out.keep (below_new _ _)) hr _ hU).mono ?_
      rintro e w9 ⟨rfl, hb9⟩
      obtain ⟨K_x0, B_w9, l_w9⟩ := blk1 hb9
      replace G := Lib.hid (G.out.keep B_w9)
      replace HV := Lib.hid (HV.out.keep B_w9)
      replace K_c := Lib.hid (K_c.out.keep B_w9)
      replace K_f := Lib.hid (K_f.out.keep B_w9)
      replace K_h := Lib.hid (K_h.out.keep B_w9)
      replace HB := Lib.hid (below_next HB.out B_w9)
      have K_x := Lib.hid K_x0
      clear hb9 B_w9 K_x0
      clear cK_c_0 cK_c_1 zK_c cK_f_0 cK_f_1 zK_f cK_h_0 cK_h_1 zK_h
      have cK_c_0 := K_c.out.cell 0
      have cK_c_1 := K_c.out.cell 1
      simp at cK_c_0 cK_c_1
      have zK_c := K_c.out.lt
      have cK_f_0 := K_f.out.cell 0
      have cK_f_1 := K_f.out.cell 1
      simp at cK_f_0 cK_f_1
      have zK_f := K_f.out.lt
      have cK_h_0 := K_h.out.cell 0
      have cK_h_1 := K_h.out.cell 1
      simp at cK_h_0 cK_h_1
      have zK_h := K_h.out.lt
      have cK_x_0 := K_x.out.cell 0
      have cK_x_1 := K_x.out.cell 1
      simp at cK_x_0 cK_x_1
      have zK_x := K_x.out.lt
      go_wp2_with fail
      go_ret
      exact ⟨rfl, HB.out⟩
    · rename_i l
      go_enter Try.func10, Try.ntmps10
      go_wp2_with fail
      refine (heavy_any _ _ _ _ _ hn63 _ hhv).mono ?_
      rintro e w1 ⟨rfl, hb1⟩
      obtain ⟨K_c0, B_w1, l_w1⟩ := blk1 hb1
      replace G := Lib.hid (G.out.keep B_w1)
      replace HV := Lib.hid (HV.out.keep B_w1)
      have HB := Lib.hid B_w1
      have K_c := Lib.hid K_c0
      clear hb1 B_w1 K_c0
      have cK_c_0 := K_c.out.cell 0
      have cK_c_1 := K_c.out.cell 1
      simp at cK_c_0 cK_c_1
      have zK_c := K_c.out.lt
      go_wp2_with fail
      refine (resOf_own _ _ _ _ _ _ xss rs vars _ G.out hv HV.out hr _ hR).mono ?_
      rintro e w2 ⟨L2, nl2, cl2, rfl, hL2, hb2⟩
      have B_w2 := hb2
      replace G := Lib.hid (G.out.keep B_w2)
      replace HV := Lib.hid (HV.out.keep B_w2)
      replace K_c := Lib.hid (K_c.out.keep B_w2)
      replace HB := Lib.hid (below_next HB.out B_w2)
      clear hb2 B_w2
      clear cK_c_0 cK_c_1 zK_c
      have cK_c_0 := K_c.out.cell 0
      have cK_c_1 := K_c.out.cell 1
      simp at cK_c_0 cK_c_1
      have zK_c := K_c.out.lt
      have IL := Lib.hid hL2
      clear hL2
      go_wp2_with fail
      refine (against_any _).mono ?_
      rintro e w4 ⟨A5, n5, c5, rfl, hG5, hb4⟩
      obtain ⟨K_f0, B_w4, l_w4⟩ := blk1 hb4
      replace G := Lib.hid (G.out.keep B_w4)
      replace HV := Lib.hid (HV.out.keep B_w4)
      replace IL := Lib.hid (IL.out.keep B_w4)
      replace K_c := Lib.hid (K_c.out.keep B_w4)
      replace HB := Lib.hid (below_next HB.out B_w4)
      have K_f := Lib.hid K_f0
      clear hb4 B_w4 K_f0
      clear cK_c_0 cK_c_1 zK_c
      have cK_c_0 := K_c.out.cell 0
      have cK_c_1 := K_c.out.cell 1
      simp at cK_c_0 cK_c_1
      have zK_c := K_c.out.lt
      have cK_f_0 := K_f.out.cell 0
      have cK_f_1 := K_f.out.cell 1
      simp at cK_f_0 cK_f_1
      have zK_f := K_f.out.lt
      have GP := Lib.hid hG5
      clear hG5
      go_wp2_with fail
      refine (end_any _).mono ?_
      rintro e w5 ⟨A6, n6, c6, rfl, hS6, hb5⟩
      have B_w5 := hb5
      replace G := Lib.hid (G.out.keep B_w5)
      replace HV := Lib.hid (HV.out.keep B_w5)
      replace IL := Lib.hid (IL.out.keep B_w5)
      replace GP := Lib.hid (GP.out.keep B_w5)
      replace K_c := Lib.hid (K_c.out.keep B_w5)
      replace K_f := Lib.hid (K_f.out.keep B_w5)
      replace HB := Lib.hid (below_next HB.out B_w5)
      clear hb5 B_w5
      clear cK_c_0 cK_c_1 zK_c cK_f_0 cK_f_1 zK_f
      have cK_c_0 := K_c.out.cell 0
      have cK_c_1 := K_c.out.cell 1
      simp at cK_c_0 cK_c_1
      have zK_c := K_c.out.lt
      have cK_f_0 := K_f.out.cell 0
      have cK_f_1 := K_f.out.cell 1
      simp at cK_f_0 cK_f_1
      have zK_f := K_f.out.lt
      have SP := Lib.hid hS6
      clear hS6
      have hn5 : n5 = 3 := GP.out.len.symm
      subst hn5
      go_wp2_with fail
      refine (resOf_own _ _ _ _ _ _ [[1, 2], [-1], [-2]] [(1, [])] 2 _ GP.out ⟨by omega, by omega⟩ SP.out ago_proof _ ago_of).mono ?_
      rintro e w6 ⟨L6, nl6, cl6, rfl, hI6, hb6⟩
      have hl6 : nl6 = 2 := hI6.len.symm
      subst hl6
      clear hI6
      have B_w6 := hb6
      replace G := Lib.hid (G.out.keep B_w6)
      replace HV := Lib.hid (HV.out.keep B_w6)
      replace IL := Lib.hid (IL.out.keep B_w6)
      replace GP := Lib.hid (GP.out.keep B_w6)
      replace SP := Lib.hid (SP.out.keep B_w6)
      replace K_c := Lib.hid (K_c.out.keep B_w6)
      replace K_f := Lib.hid (K_f.out.keep B_w6)
      replace HB := Lib.hid (below_next HB.out B_w6)
      clear hb6 B_w6
      clear cK_c_0 cK_c_1 zK_c cK_f_0 cK_f_1 zK_f
      have cK_c_0 := K_c.out.cell 0
      have cK_c_1 := K_c.out.cell 1
      simp at cK_c_0 cK_c_1
      have zK_c := K_c.out.lt
      have cK_f_0 := K_f.out.cell 0
      have cK_f_1 := K_f.out.cell 1
      simp at cK_f_0 cK_f_1
      have zK_f := K_f.out.lt
      clear GP SP
      go_wp2_with fail
      refine (proofLaw_any _ _ _ _ _ _ xss rs vars _ (G.out.keep (below_new _ _)) hv (HV.out.keep (below_new _ _)) _ _ hr).mono ?_
      rintro e w8 ⟨rfl, hb8⟩
      obtain ⟨K_h0, B_w8, l_w8⟩ := blk1 hb8
      replace G := Lib.hid (G.out.keep B_w8)
      replace HV := Lib.hid (HV.out.keep B_w8)
      replace IL := Lib.hid (IL.out.keep B_w8)
      replace K_c := Lib.hid (K_c.out.keep B_w8)
      replace K_f := Lib.hid (K_f.out.keep B_w8)
      replace HB := Lib.hid (below_next HB.out B_w8)
      have K_h := Lib.hid K_h0
      clear hb8 B_w8 K_h0
      clear cK_c_0 cK_c_1 zK_c cK_f_0 cK_f_1 zK_f
      have cK_c_0 := K_c.out.cell 0
      have cK_c_1 := K_c.out.cell 1
      simp at cK_c_0 cK_c_1
      have zK_c := K_c.out.lt
      have cK_f_0 := K_f.out.cell 0
      have cK_f_1 := K_f.out.cell 1
      simp at cK_f_0 cK_f_1
      have zK_f := K_f.out.lt
      have cK_h_0 := K_h.out.cell 0
      have cK_h_1 := K_h.out.cell 1
      simp at cK_h_0 cK_h_1
      have zK_h := K_h.out.lt
      go_wp2_with fail
      refine (unfolded_ref _ _ _ _ _ _ xss rs vars _ (G.out.keep (below_new _ _)) (HV.out.keep (below_new _ _)) hr _ hU).mono ?_
      rintro e w9 ⟨O2, no2, co2, rfl, hO2, hb9⟩
      obtain ⟨K_x0, B_w9, l_w9⟩ := blk1 hb9
      replace G := Lib.hid (G.out.keep B_w9)
      replace HV := Lib.hid (HV.out.keep B_w9)
      replace IL := Lib.hid (IL.out.keep B_w9)
      replace K_c := Lib.hid (K_c.out.keep B_w9)
      replace K_f := Lib.hid (K_f.out.keep B_w9)
      replace K_h := Lib.hid (K_h.out.keep B_w9)
      replace HB := Lib.hid (below_next HB.out B_w9)
      have K_x := Lib.hid K_x0
      clear hb9 B_w9 K_x0
      clear cK_c_0 cK_c_1 zK_c cK_f_0 cK_f_1 zK_f cK_h_0 cK_h_1 zK_h
      have cK_c_0 := K_c.out.cell 0
      have cK_c_1 := K_c.out.cell 1
      simp at cK_c_0 cK_c_1
      have zK_c := K_c.out.lt
      have cK_f_0 := K_f.out.cell 0
      have cK_f_1 := K_f.out.cell 1
      simp at cK_f_0 cK_f_1
      have zK_f := K_f.out.lt
      have cK_h_0 := K_h.out.cell 0
      have cK_h_1 := K_h.out.cell 1
      simp at cK_h_0 cK_h_1
      have zK_h := K_h.out.lt
      have cK_x_0 := K_x.out.cell 0
      have cK_x_1 := K_x.out.cell 1
      simp at cK_x_0 cK_x_1
      have zK_x := K_x.out.lt
      have IO := Lib.hid hO2
      clear hO2
      have dn : ((nl2 : Int) != (no2 : Int)) = false := by have h1 := IL.out.len; have h2 := IO.out.len; rw [show nl2 = no2 by omega]; simp
      have bL0 := IL.out.bd
      have bO0 := IO.out.bd
      go_wp2_with fail
      obtain ⟨w0, hw0⟩ : ∃ z : World, z = w9 := ⟨_, rfl⟩
      have HBW : Hid (Below w.heap.size w w0) := by rw [hw0]; exact HB.out
      have IL0 : Hid (Trips w0 L2 nl2 cl2 l) := by rw [hw0]; exact IL.out
      have IO0 : Hid (Trips w0 O2 no2 co2 l) := by rw [hw0]; exact IO.out
      have hno : Hid (no2 = nl2) := by have h1 := IL0.out.len; have h2 := IO0.out.len; show _ = _; omega
      have bL := IL0.out.bd
      have bO := IO0.out.bd
      rw [← hw0]
      clear hw0
      go_loopw [12] (fun s wr => ∃ (k q : Nat), k ≤ nl2 ∧ s = .int .i64 k ∧ Hid (wr = w0.drewN q)) (fun i _ => nl2 - (intOf i).toNat)
      case atStart => exact ⟨0, 0, Nat.zero_le _, rfl, rfl⟩
      case round =>
        obtain ⟨k, q, hk, rfl, hwr⟩ := hrel
        have hbw : Below w0.heap.size w0 wr := by rw [hwr.out]; exact below_drewN _ _
        have ILR := Lib.hid (IL0.out.keep hbw)
        have IOR := Lib.hid (IO0.out.keep hbw)
        have HBR := Lib.hid (below_next HBW.out hbw)
        by_cases hkn : k < nl2
        · obtain ⟨bA, oA, x1, y1, z1, hA1, hltA, a0, a1, a2, _, _, _, hk1⟩ := ILR.out.round hkn
          obtain ⟨bB, oB, x2, y2, z2, hB1, hltB, b0, b1, b2, _, _, _, hk2⟩ := IOR.out.round (show k < no2 by rw [hno.out]; exact hkn)
          obtain ⟨rfl, rfl, rfl⟩ : x1 = x2 ∧ y1 = y2 ∧ z1 = z2 := by
            have := hk1.out.symm.trans hk2.out
            simpa using this
          have u1 : (0 : Int) ≤ (k : Int) := by omega
          have u2 : (k : Int) < (nl2 : Int) := by omega
          have u3 : (k : Int) < (no2 : Int) := by rw [hno.out]; omega
          subst hA1 hB1
          clear hk1 hk2
          go_wp2_with fail
          go_quiet (fail)
          go_wp2_with fail
          go_roundw
          case rel => exact ⟨k + 1, q + nq, by omega, by go_num, by show _ = _; rw [hwr.out, World.drewN_drewN]⟩
          case measure => simp [intOf] <;> omega
        · go_wp2_with fail
          go_ret
          exact ⟨rfl, HBR.out⟩
  · have d1 : (r1 != 0) = true := by simpa using hr1
    go_enter Try.func10, Try.ntmps10
    go_wp2_with fail
    refine (heavy_any _ _ _ _ _ hn63 _ hhv).mono ?_
    rintro e w1 ⟨rfl, hb1⟩
    obtain ⟨K_c0, B_w1, l_w1⟩ := blk1 hb1
    replace G := Lib.hid (G.out.keep B_w1)
    replace HV := Lib.hid (HV.out.keep B_w1)
    have HB := Lib.hid B_w1
    have K_c := Lib.hid K_c0
    clear hb1 B_w1 K_c0
    have cK_c_0 := K_c.out.cell 0
    have cK_c_1 := K_c.out.cell 1
    simp at cK_c_0 cK_c_1
    have zK_c := K_c.out.lt
    go_wp2_with fail
    refine (resOf_wrong _ _ _ _ _ _ xss rs vars _ G.out hv HV.out r1 r2 hr hr1).mono ?_
    rintro e w2 ⟨rfl, hb2⟩
    have B_w2 := hb2
    replace G := Lib.hid (G.out.keep B_w2)
    replace HV := Lib.hid (HV.out.keep B_w2)
    replace K_c := Lib.hid (K_c.out.keep B_w2)
    replace HB := Lib.hid (below_next HB.out B_w2)
    clear hb2 B_w2
    clear cK_c_0 cK_c_1 zK_c
    have cK_c_0 := K_c.out.cell 0
    have cK_c_1 := K_c.out.cell 1
    simp at cK_c_0 cK_c_1
    have zK_c := K_c.out.lt
    go_wp2_with fail
    refine (against_any _).mono ?_
    rintro e w4 ⟨A5, n5, c5, rfl, hG5, hb4⟩
    obtain ⟨K_f0, B_w4, l_w4⟩ := blk1 hb4
    replace G := Lib.hid (G.out.keep B_w4)
    replace HV := Lib.hid (HV.out.keep B_w4)
    replace K_c := Lib.hid (K_c.out.keep B_w4)
    replace HB := Lib.hid (below_next HB.out B_w4)
    have K_f := Lib.hid K_f0
    clear hb4 B_w4 K_f0
    clear cK_c_0 cK_c_1 zK_c
    have cK_c_0 := K_c.out.cell 0
    have cK_c_1 := K_c.out.cell 1
    simp at cK_c_0 cK_c_1
    have zK_c := K_c.out.lt
    have cK_f_0 := K_f.out.cell 0
    have cK_f_1 := K_f.out.cell 1
    simp at cK_f_0 cK_f_1
    have zK_f := K_f.out.lt
    have GP := Lib.hid hG5
    clear hG5
    go_wp2_with fail
    refine (end_any _).mono ?_
    rintro e w5 ⟨A6, n6, c6, rfl, hS6, hb5⟩
    have B_w5 := hb5
    replace G := Lib.hid (G.out.keep B_w5)
    replace HV := Lib.hid (HV.out.keep B_w5)
    replace GP := Lib.hid (GP.out.keep B_w5)
    replace K_c := Lib.hid (K_c.out.keep B_w5)
    replace K_f := Lib.hid (K_f.out.keep B_w5)
    replace HB := Lib.hid (below_next HB.out B_w5)
    clear hb5 B_w5
    clear cK_c_0 cK_c_1 zK_c cK_f_0 cK_f_1 zK_f
    have cK_c_0 := K_c.out.cell 0
    have cK_c_1 := K_c.out.cell 1
    simp at cK_c_0 cK_c_1
    have zK_c := K_c.out.lt
    have cK_f_0 := K_f.out.cell 0
    have cK_f_1 := K_f.out.cell 1
    simp at cK_f_0 cK_f_1
    have zK_f := K_f.out.lt
    have SP := Lib.hid hS6
    clear hS6
    have hn5 : n5 = 3 := GP.out.len.symm
    subst hn5
    go_wp2_with fail
    refine (resOf_own _ _ _ _ _ _ [[1, 2], [-1], [-2]] [(1, [])] 2 _ GP.out ⟨by omega, by omega⟩ SP.out ago_proof _ ago_of).mono ?_
    rintro e w6 ⟨L6, nl6, cl6, rfl, hI6, hb6⟩
    have hl6 : nl6 = 2 := hI6.len.symm
    subst hl6
    clear hI6
    have B_w6 := hb6
    replace G := Lib.hid (G.out.keep B_w6)
    replace HV := Lib.hid (HV.out.keep B_w6)
    replace GP := Lib.hid (GP.out.keep B_w6)
    replace SP := Lib.hid (SP.out.keep B_w6)
    replace K_c := Lib.hid (K_c.out.keep B_w6)
    replace K_f := Lib.hid (K_f.out.keep B_w6)
    replace HB := Lib.hid (below_next HB.out B_w6)
    clear hb6 B_w6
    clear cK_c_0 cK_c_1 zK_c cK_f_0 cK_f_1 zK_f
    have cK_c_0 := K_c.out.cell 0
    have cK_c_1 := K_c.out.cell 1
    simp at cK_c_0 cK_c_1
    have zK_c := K_c.out.lt
    have cK_f_0 := K_f.out.cell 0
    have cK_f_1 := K_f.out.cell 1
    simp at cK_f_0 cK_f_1
    have zK_f := K_f.out.lt
    clear GP SP
    go_wp2_with fail
    refine (proofLaw_any _ _ _ _ _ _ xss rs vars _ (G.out.keep (below_new _ _)) hv (HV.out.keep (below_new _ _)) _ _ hr).mono ?_
    rintro e w8 ⟨rfl, hb8⟩
    obtain ⟨K_h0, B_w8, l_w8⟩ := blk1 hb8
    replace G := Lib.hid (G.out.keep B_w8)
    replace HV := Lib.hid (HV.out.keep B_w8)
    replace K_c := Lib.hid (K_c.out.keep B_w8)
    replace K_f := Lib.hid (K_f.out.keep B_w8)
    replace HB := Lib.hid (below_next HB.out B_w8)
    have K_h := Lib.hid K_h0
    clear hb8 B_w8 K_h0
    clear cK_c_0 cK_c_1 zK_c cK_f_0 cK_f_1 zK_f
    have cK_c_0 := K_c.out.cell 0
    have cK_c_1 := K_c.out.cell 1
    simp at cK_c_0 cK_c_1
    have zK_c := K_c.out.lt
    have cK_f_0 := K_f.out.cell 0
    have cK_f_1 := K_f.out.cell 1
    simp at cK_f_0 cK_f_1
    have zK_f := K_f.out.lt
    have cK_h_0 := K_h.out.cell 0
    have cK_h_1 := K_h.out.cell 1
    simp at cK_h_0 cK_h_1
    have zK_h := K_h.out.lt
    go_wp2_with fail
    go_ret
    exact ⟨by simp, below_next HB.out (below_new _ _)⟩
end Go.Proofs.Ytabjbpkojbdgaaa

/- The law ResOfs holds: for every input it returns true, and each argument reads behind the call as it read before. -/
namespace Go.Proofs.Ytabjbpkojbdgaaa
open Go.ChangeShapes Go.WideShapes Go.ChangeAt Go.RowKit Go.Deep Go.Joins
set_option linter.unusedVariables false

theorem resOfs_knob : ownKnob Try.prog.godebug = none := by kernel_rfl
theorem resOfs_laidOut : laidOutB Try.prog = true := by kernel_rfl

set_option maxRecDepth 100000 in
theorem resOfs_lifted (os : Os) (started : os.Started) (H : Type) (enc : TypeId × Value → H) :
    ReturnsInHanded {} Try.checked os 10 .any (Rows.resOfsSpec.pre6 enc Try.prog Try.f10 Rows.resOfsRow.domain false) (Rows.resOfsSpec.post enc Try.prog Try.f10 false true false false) := by
  refine returnsInHanded_of_change (C := Try.checked) resOfs_knob started (by kernel_rfl) Try.func10
    (ChangeSpec.witness6 (enc := enc) (C := Try.checked) false ⟨#[], #[.agg #[.int .i64 0, .slice none 0 0], .slice none 0 0], []⟩ 8 (by kernel_rfl) (by kernel_rfl) (by kernel_rfl) (by kernel_rfl)) ?_
  intro W base args ds gs before hval0 hW hcnd _
  have hval : ∀ (j : Nat) t v, Try.f10.params[j]? = some t → args[j]? = some v → Value.okWide Try.prog W .any base t v := hval0
  have hW' := hW
  obtain ⟨p, q, hA0, hV, rfl, hfz, hnd⟩ := hW
  have hA : DataW.TrodAll enc Try.prog W 0 (fun _ => true) true Try.f10.params.toList args.toList ds p := hA0
  rw [Try.params10] at hA hval
  obtain ⟨v0, vs0, d0, ds0, p0, q0, hargs, rfl, rfl, h0, r0⟩ := trodAll_cons hA
  obtain ⟨v1, vs1, d1, ds1, p1, q1, rfl, rfl, rfl, h1, r1⟩ := trodAll_cons r0
  obtain ⟨rfl, rfl, rfl⟩ := trodAll_nil r1
  obtain rfl : args = #[v0, v1] := by cases args; simp_all
  obtain ⟨rfl, rfl⟩ := trodVars_none hV
  have k0 := h0
  have lt0 : ∀ x ∈ p0, x.block < W.heap.size := by obtain ⟨m, hm⟩ := k0; exact DataW.trod_lt m _ _ _ hm
  obtain ⟨vars0, A0, n0, c0, x0, rfl, wv0, w0⟩ := rd_cnf Try.underlying24 (by kernel_rfl) (by kernel_rfl) rfl rfl Try.underlying3 Try.underlying22 Try.underlying25 Try.underlying3 (by kernel_rfl) (by kernel_rfl) (hval 0 24 v0 rfl rfl) h0
  have k1 := h1
  have lt1 : ∀ x ∈ p1, x.block < W.heap.size := by obtain ⟨m, hm⟩ := k1; exact DataW.trod_lt m _ _ _ hm
  obtain ⟨A1, n1, c1, rfl⟩ := okWide_slice Try.underlying57 (hval 1 57 v1 rfl rfl)
  obtain ⟨fuel1, hf1⟩ := h1
  obtain ⟨B1, m1, e1, x1, eq1, w1⟩ := rd_steps Try.underlying57 Try.underlying102 (by kernel_rfl) Try.underlying3 Try.underlying25 (by kernel_rfl) (by kernel_rfl) rfl rfl rfl rfl rfl rfl Try.underlying96 (by kernel_rfl) rfl rfl Try.underlying100 (by kernel_rfl) rfl rfl rfl rfl rfl rfl rfl rfl Try.underlying98 (by kernel_rfl) rfl rfl rfl rfl rfl rfl hf1
  cases eq1
  clear hA0 hval0
  refine (resOfs_walk _ wv0 w0 w1).mono fun e W' ⟨he, bel⟩ => ?_
  subst he
  exact ⟨_, rfl, _, _, _, [], _, [], hW', trodAll_mk1 (shut_bool Try.underlying4 _), (trodAll_cons_mk (Below.trod resOfs_laidOut (by kernel_rfl) (of_decide_eq_true (by kernel_rfl)) k0 bel lt0) (trodAll_cons_mk (Below.trod resOfs_laidOut (by kernel_rfl) (of_decide_eq_true (by kernel_rfl)) k1 bel lt1) trodAll_mk0)), rfl, bel.frame _, fun h => by cases h⟩

/-- THE STATEMENT. -/
theorem resOfs_holds : Rows.ResOfsSaid :=
  OpenClaim.holds_of_wide 10 Try.f10 rfl rfl rfl rfl rfl rfl rfl ⟨rfl, rfl, rfl, rfl, rfl⟩ rfl rfl rfl rfl rfl (by kernel_rfl) Try.func10 (by kernel_rfl)
    (of_decide_eq_true (by kernel_rfl)) (by unfold Func.isWrapper; first | (rw [if_pos (by decide +kernel)]; kernel_rfl) | (rw [if_neg (by decide +kernel)]; exact ⟨rfl, rfl⟩))
    (fun os started H enc _ => resOfs_lifted os started H enc)
end Go.Proofs.Ytabjbpkojbdgaaa
