/- Contract of prop.Probe. (Printed by wip/tools/probe.py.) -/
import Derived.Test.YtghebbkpdldjfaaProp
import Derived.Test.YtghebbkpdldjfaaPropPlain
import Derived.Test.YtghebbkpdldjfaaRefAsk
namespace Go.Proofs.Ytghebbkpdldjfaa
open Go.RowKit

/-- v, -v, v + 1, -(v + 1), .. -/
def cndF : Nat → Int → List Int
  | 0, _ => []
  | m + 1, v => v :: -v :: cndF m (v + 1)
def probeF (vars : Int) (xss : List (List Int)) : List Int := (cndF vars.toNat 1).filter (fun l => fallsF vars xss [l])
theorem cndF_mem : ∀ (m : Nat) (v : Int), 0 < v → ∀ y ∈ cndF m v, y ≠ 0 ∧ (y.natAbs : Int) < v + m
  | 0, _, _, _, h => by simp [cndF] at h
  | m + 1, v, hv, y, h => by
    rw [cndF, List.mem_cons, List.mem_cons] at h
    rcases h with rfl | rfl | h
    · exact ⟨by omega, by omega⟩
    · exact ⟨by omega, by omega⟩
    · have := cndF_mem m (v + 1) (by omega) y h
      exact ⟨this.1, by omega⟩
theorem probeF_mem {vars : Int} {xss : List (List Int)} {y : Int} (h0 : 0 ≤ vars) (h : y ∈ probeF vars xss) : y ≠ 0 ∧ (y.natAbs : Int) ≤ vars ∧ fallsF vars xss [y] = true := by
  unfold probeF at h
  rw [List.mem_filter] at h
  have := cndF_mem vars.toNat 1 (by omega) y h.1
  exact ⟨this.1, by omega, h.2⟩
theorem lits1 {vars z : Int} (h0 : z ≠ 0) (h : (z.natAbs : Int) ≤ vars) : Lits vars [z] := ⟨fun x hx => by simp at hx; subst hx; exact ⟨h0, by omega, by omega⟩, by simp⟩

/-- The boxes of Probe: the formula, the fault. -/
structure PrSt (w wr : World) (A : Option Addr) (n c : Nat) (vars : Int) : Prop where
  bl : Below w.heap.size w wr
  cb : Blk wr w.heap.size 24 #[.int .i64 vars, .slice A n c]
  rb : Blk wr (w.heap.size + 1) 28 #[.int .i64 0, .int .i64 0]
section
variable {w wr w' : World} {A : Option Addr} {n c : Nat} {vars : Int}
theorem PrSt.keep (h : PrSt w wr A n c vars) (hb : Below wr.heap.size wr w') : PrSt w w' A n c vars := ⟨below_next h.bl hb, h.cb.keep hb, h.rb.keep hb⟩
theorem PrSt.grown {B : Option Addr} {k d : Nat} {xs : List Value} (h : PrSt w wr A n c vars) (ho : Own 3 wr (w.heap.size + 2) B k d xs) (hg : wr.grownBy w' (blockOf B)) : PrSt w w' A n c vars :=
  ⟨below_grown h.bl ho (by omega) hg, h.cb.grownO ho hg (by omega), h.rb.grownO ho hg (by omega)⟩
end

set_option maxHeartbeats 1000000 in
theorem probe_wrong (A : Option Addr) (n c : Nat) (xss : List (List Int)) (vars : Int) (w : World) (h : Grid w A n c xss) (hv : I64 vars) (r1 r2 : Int) (hr : Hid (checkC vars xss = (r1, r2))) (h0 : r1 ≠ 0) :
    Calls Try.prog 23 #[.agg #[.int .i64 vars, .slice A n c]] w (RetV (.tuple #[.slice none 0 0, .agg #[.int .i64 r1, .int .i64 r2]]) w) := by
  have d1 : (r1 != 0) = true := by simpa using h0
  have hbW := below_alloc (below_new w (.cells #[.int .i64 vars, .slice A n c] 24)) (.cells #[.int .i64 0, .int .i64 0] 28)
  have g := h.keep hbW
  have HBW := Lib.hid hbW
  clear hbW
  go_enter Try.func23, Try.ntmps23
  go_wp2_with fail
  refine (check_own _ _ _ _ _ _ g hv _ _ hr).mono ?_
  rintro e w1 ⟨rfl, hb1⟩
  obtain ⟨k3, k4, _, l1⟩ := two_blks hb1
  have t0 := k4.cell 0
  have t1 := k4.cell 1
  have tf0 := k4.frozen 0
  have tf1 := k4.frozen 1
  simp at t0 t1
  have HB := Lib.hid (below_next HBW.out hb1)
  have l3 : w.heap.size + 1 < w1.heap.size := by omega
  clear hb1 k3 k4 g
  go_wp2_with fail
  go_region
  go_wp2_with fail
  refine bodyPost_ret (v := .tuple #[.slice none 0 0, .agg #[.int .i64 r1, .int .i64 r2]]) (by simp [results, Try.results23, go_sem, t0, t1, l3]) rfl ⟨rfl, ?_⟩
  exact ((below_put2 HB.out (g := w.heap.size + 1) (by omega) _ _).alloc (by simp; omega) _).drew

set_option maxHeartbeats 4000000 in
set_option maxRecDepth 100000 in
theorem probe_own (A : Option Addr) (n c : Nat) (xss : List (List Int)) (vars : Int) (w : World) (h : Grid w A n c xss) (hv : I64 vars) (hr : Hid (checkC vars xss = (0, 0))) :
    Calls Try.prog 23 #[.agg #[.int .i64 vars, .slice A n c]] w (RetRow (probeF vars xss) w) := by
  obtain ⟨_, v0, v1, hn400, hrows⟩ := checkC_ok (vars := vars) (xss := xss) (by rw [hr.out])
  have v6 : vars ≤ 1000000 := by omega
  have HC : Hid (∀ x ∈ xss, Lits vars x) := fun x hx => (hrows x hx).2
  have G := Lib.hid h
  obtain ⟨i0, hi0, hz0, hz1, hz2⟩ := info_parts int_info
  have HRES : Hid ((cndF vars.toNat 1).filter (fun l => fallsF vars xss [l]) = probeF vars xss) := rfl
  clear hrows hn400 h
  go_enter Try.func23, Try.ntmps23
  go_wp2_with fail
  refine (check_own _ _ _ _ _ _ (G.out.keep (below_alloc (below_new _ _) _)) hv _ _ hr).mono ?_
  rintro e w1 ⟨rfl, hb1⟩
  obtain ⟨k3, k4, B1, l1⟩ := two_blks hb1
  have hst0 : Hid (PrSt w (w1.alloc (.cells #[.int .i64 0, .int .i64 0] 28)) A n c vars) := PrSt.keep ⟨B1, k3, k4⟩ (below_new _ _)
  have l2 : w.heap.size < w1.heap.size := by omega
  have hl0 : Hid (w.heap.size + 2 ≤ (w1.alloc (.cells #[.int .i64 0, .int .i64 0] 28)).heap.size) := by simp [Hid]; omega
  have c0 := k3.cell 0
  simp at c0
  clear hb1 k3 k4 B1
  go_wp2_with fail
  go_loopw [5, 6] (fun o v wr => ∃ (j m nl cl : Nat) (Lf : Option Addr) (ys : List Int), (j : Int) + m = vars ∧ nl ≤ 2 * j ∧ o = .slice Lf nl cl ∧ v = .int .i64 (j + 1) ∧ Hid (PrSt w wr A n c vars) ∧ Hid (Own 3 wr (w.heap.size + 2) Lf nl cl (ys.map (Value.int .i64))) ∧ Hid (∀ y ∈ ys, I64 y) ∧ Hid (w.heap.size + 2 ≤ wr.heap.size) ∧ Hid (ys ++ (cndF m (j + 1)).filter (fun l => fallsF vars xss [l]) = probeF vars xss)) (fun _ v _ => (vars + 1 - intOf v).toNat)
  case atStart => exact ⟨0, vars.toNat, 0, 0, none, [], by omega, Nat.zero_le _, rfl, rfl, hst0, Own.nil _ _ _, by simp [Hid], hl0, by have := HRES.out; simpa [Hid] using this⟩
  case round =>
    obtain ⟨j, m, nl, cl, Lf, ys, hjm, hnl, rfl, rfl, hst, hown, hys, hws, hdone⟩ := hrel
    clear hst0 hl0 c0
    have c0 := hst.out.cb.cell 0
    simp at c0
    obtain ⟨wo, hwo⟩ : ∃ wo : World, wo = wr := ⟨_, rfl⟩
    subst hwo
    by_cases hlt : (j : Int) + 1 ≤ vars
    · obtain ⟨m', rfl⟩ : ∃ m', m = m' + 1 := ⟨m - 1, by omega⟩
      have hdone2 : Hid (ys ++ (([(j : Int) + 1, -((j : Int) + 1)].drop 0).filter (fun l => fallsF vars xss [l]) ++ (cndF m' ((j : Int) + 1 + 1)).filter (fun l => fallsF vars xss [l])) = probeF vars xss) := by
        have := hdone.out
        rw [cndF, ← List.singleton_append, ← List.singleton_append (l := cndF _ _), ← List.append_assoc, List.filter_append] at this
        exact this
      have hne0 : Hid (blockOf Lf ≠ some wo.heap.size) := hown.out.ltb (Nat.le_refl _)
      have HPAIR := Lib.hid (ints_made wo 3 [(j : Int) + 1, -((j : Int) + 1)] rfl (by simp [I64]; omega) (by simp [maxLen]))
      have hst0 := Lib.hid (hst.out.keep (below_new wo (.cells #[.int .i64 ((j : Int) + 1), .int .i64 (-((j : Int) + 1))] 3)))
      have hown0 := Lib.hid (hown.out.keep (below_new wo (.cells #[.int .i64 ((j : Int) + 1), .int .i64 (-((j : Int) + 1))] 3)))
      clear hdone
      go_wp2_with fail
      go_loopw [5, 26] (fun o i wr => ∃ (p nl cl : Nat) (Lf : Option Addr) (ys : List Int), p ≤ 2 ∧ nl ≤ 2 * j + p ∧ o = .slice Lf nl cl ∧ i = .int .i64 p ∧ Hid (PrSt w wr A n c vars) ∧ Hid (Own 3 wr (w.heap.size + 2) Lf nl cl (ys.map (Value.int .i64))) ∧ Hid (∀ y ∈ ys, I64 y) ∧ Hid (blockOf Lf ≠ some wo.heap.size) ∧ Hid (Ints wr (some ⟨wo.heap.size, 0, none⟩) 2 2 [(j : Int) + 1, -((j : Int) + 1)]) ∧ Hid (wo.heap.size < wr.heap.size) ∧ Hid (ys ++ (([(j : Int) + 1, -((j : Int) + 1)].drop p).filter (fun l => fallsF vars xss [l]) ++ (cndF m' ((j : Int) + 1 + 1)).filter (fun l => fallsF vars xss [l])) = probeF vars xss)) (fun _ i _ => 2 - (intOf i).toNat)
      case atStart => exact ⟨0, nl, cl, Lf, ys, by omega, by omega, rfl, rfl, hst0, hown0, hys, hne0, HPAIR, by simp [Hid], hdone2⟩
      case round =>
        clear hst hown hys hdone2 hne0 HPAIR hst0 hown0 c0 hnl
        obtain ⟨p, nl, cl, Lf, ys, hp, hnl, rfl, rfl, hst, hown, hys, hne, hpr, hwl, hdone⟩ := hrel
        have c1 := hst.out.cb.cell 1
        simp at c1
        have hwl' := hwl.out
        have hlt0 : w.heap.size < wr.heap.size := hst.out.cb.lt
        by_cases hlp : p < 2
        · obtain ⟨b3, off3, y, heq, hb3, hcell3, y1, y2, hyp⟩ := hpr.out.round hlp
          cases heq
          rw [Nat.zero_add] at hcell3
          have hym := List.mem_of_getElem? hyp.out
          have hy1 : -120 ≤ y ∧ y ≤ 120 := by
            simp at hym
            omega
          have HY1 : Hid (Lits vars [y]) := lits1 (by simp at hym; omega) (by simp at hym; omega)
          obtain ⟨q, hq⟩ : ∃ q, Hid (fallsF vars xss [y] = q) := ⟨_, rfl⟩
          have hdone2 : Hid (ys ++ ((if q then [y] else []) ++ (([(j : Int) + 1, -((j : Int) + 1)].drop (p + 1)).filter (fun l => fallsF vars xss [l]) ++ (cndF m' ((j : Int) + 1 + 1)).filter (fun l => fallsF vars xss [l]))) = probeF vars xss) := by
            have := hdone.out
            rw [drop_cons_of hyp.out, List.filter_cons, hq.out] at this
            show _ = _
            cases q <;> simpa using this
          have gW := Lib.hid (G.out.keep hst.out.bl)
          have hS := Lib.hid (ints_made wr 3 [y] rfl (by simp [I64]; omega) (by simp [maxLen]))
          clear hdone hym
          go_wp2_with fail
          refine (falls_any _ _ _ _ _ _ xss [y] vars _ (gW.out.keep (below_new _ _)) hS.out v0 v6 HC.out HY1.out q hq).mono ?_
          rintro e w4 ⟨rfl, hb4⟩
          obtain ⟨_, B4, l4⟩ := blk1 hb4
          have hst4 := Lib.hid (hst.out.keep B4)
          have hown4 := Lib.hid (hown.out.keep B4)
          have hpr4 := Lib.hid (hpr.out.keep B4)
          have hlt4 : w.heap.size < w4.heap.size := by omega
          clear hb4 B4 hst hown hpr gW hcell3 c1
          cases q
          · go_wp2_with fail
            go_roundw
            case rel => exact ⟨p + 1, nl, cl, Lf, ys, by omega, by omega, rfl, by go_num, hst4, hown4, hys, hne, hpr4, by show _ < _; omega, hdone2⟩
            case measure => simp [intOf]; omega
          · have hS4 := Lib.hid (ints_made w4 3 [y] rfl (by simp [I64]; omega) (by simp [maxLen]))
            go_wp2_with (first
              | (at_builtin
                 refine wpList_append_sl _ rfl (.tmp 35) (.tmp 37) _ rfl (w.heap.size + 2) 3 i0 _ 8 Try.underlying25 hi0 hz0 hz1 hz2 rfl Lf nl cl _ rfl (hown4.out.keep (below_new _ _)) (some ⟨w4.heap.size, 0, none⟩) 1 1 _ rfl hS4.out.sl (ints_one _) (by simp only [maxLen]; omega) (by omega) (by have := hws.out; simp; omega) ?_
                 intro L1 cL1 w5 hL1 hg1 hat1
                 have HL1 := Lib.hid hL1
                 have HG1 := Lib.hid hg1
                 have HAT1 := Lib.hid hat1
                 clear hL1 hg1 hat1))
            go_roundw
            case rel =>
              have hbn := below_new w4 (.cells #[.int .i64 y] 3)
              refine ⟨p + 1, nl + 1, cL1, L1, ys ++ [y], by omega, by omega, rfl, by go_num, (hst4.out.keep hbn).grown (hown4.out.keep hbn) HG1.out, by rw [List.map_append]; exact HL1.out, ?_, ?_, (hpr4.out.keep hbn).kept HG1.out ?_, ?_, ?_⟩
              · intro z hz
                rcases List.mem_append.1 hz with hz | hz
                · exact hys.out z hz
                · simp at hz; subst hz; exact ⟨y1, y2⟩
              · show _ ≠ _
                rcases HAT1.out with h1 | h1
                · rw [h1]; exact hne.out
                · rw [h1]; simp; omega
              · exact .inr fun e => hne.out e.symm
              · have := HG1.out.size
                simp at this
                show _ < _
                omega
              · have := hdone2.out
                show _ = _
                rw [List.append_assoc]
                exact this
            case measure => simp [intOf]; omega
        · go_wp2_with fail
          go_roundw
          case rel =>
            refine ⟨j + 1, m', nl, cl, Lf, ys, by omega, by omega, rfl, by go_num, hst, hown, hys, by have := hws.out; show _ ≤ _; omega, ?_⟩
            have := hdone.out
            rw [List.drop_of_length_le (by simp; omega)] at this
            simpa [Hid] using this
          case measure => simp [intOf]; omega
    · have hm0 : m = 0 := by omega
      subst hm0
      have hres : Hid (ys = probeF vars xss) := by have := hdone.out; simpa [cndF, Hid] using this
      have t0 := hst.out.rb.cell 0
      have t1 := hst.out.rb.cell 1
      have tf0 := hst.out.rb.frozen 0
      have tf1 := hst.out.rb.frozen 1
      simp at t0 t1
      obtain ⟨u0, u1⟩ := hst.out.rb.put2 (.int .i64 0) (.int .i64 0)
      have U0 := Lib.hid u0
      have U1 := Lib.hid u1
      have HB := Lib.hid hst.out.bl
      have hneF := hown.out.geb (show w.heap.size + 1 < w.heap.size + 2 by omega)
      have HI := Lib.hid (((hown.out.ints hys.out).kept (grown_setCell _ ⟨w.heap.size + 1, 0, none⟩ (.int .i64 0)) hneF).kept (grown_setCell _ ⟨w.heap.size + 1, 1, none⟩ (.int .i64 0)) hneF)
      have lt1 : w.heap.size < wo.heap.size := hst.out.cb.lt
      clear u0 u1 hneF
      go_wp2_with fail
      exact bodyPost_ret (v := .tuple #[.slice Lf nl cl, .agg #[.int .i64 0, .int .i64 0]]) (by simp [results, Try.results23, go_sem, U0.out, U1.out]) rfl
        ⟨Lf, nl, cl, rfl, by rw [← hres.out]; exact HI.out, below_put2 HB.out (g := w.heap.size + 1) (by omega) _ _⟩
end Go.Proofs.Ytghebbkpdldjfaa
