/- Contracts of the kit's ClauseOf and CnfOf: clauses of the call's own. (Printed by wip/tools/kitcl.py.) -/
import Derived.Test.YtlfgcblijfflfaaGreatKitA
import Derived.Test.YtlfgcblijfflfaaGreatCloneR
import Derived.Test.YtlfgcblijfflfaaGreatTail
import Derived.BigQuiet
namespace Go.Proofs.YtlfgcblijfflfaaGreat
open Go.RowKit
set_option linter.unusedSimpArgs false

def RetClause (vars : Int) (w : World) (e : Ending) (w' : World) : Prop :=
  ∃ C nc cc cl, e = .returned (.slice C nc cc) ∧ Own 3 w' w.heap.size C nc cc (cl.map (Value.int .i64)) ∧ Lits vars cl ∧ nc ≤ 3 ∧ Below w.heap.size w w'
theorem lits_add {vars x : Int} {c : List Int} (hc : Lits vars c) (hx : x ≠ 0 ∧ -vars ≤ x ∧ x ≤ vars) (h : ∀ y ∈ c, y ≠ x ∧ y ≠ -x) : Lits vars (c ++ [x]) := by
  refine ⟨fun z hz => ?_, List.pairwise_append.2 ⟨hc.2, by simp, fun y hy z hz e => ?_⟩⟩
  · rcases List.mem_append.1 hz with hz | hz
    · exact hc.1 z hz
    · simp at hz; subst hz; exact hx
  · simp at hz
    subst hz
    rcases Int.natAbs_eq_natAbs_iff.1 e with e | e
    · exact (h y hy).1 e
    · exact (h y hy).2 e
theorem lits_swap {vars : Int} {c : List Int} (hc : Lits vars c) {j : Nat} {x y : Int} (h1 : c[j]? = some x) (h2 : c[j + 1]? = some y) : Lits vars ((c.set (j + 1) x).set j y) := by
  have hp : ((c.set (j + 1) x).set j y).Perm c := by
    obtain ⟨a, b, rfl, ha⟩ : ∃ a b, c = a ++ x :: y :: b ∧ a.length = j := by
      refine ⟨c.take j, c.drop (j + 2), ?_, ?_⟩
      · have e1 := drop_cons_of h1
        have e2 := drop_cons_of h2
        rw [← e2, ← e1, List.take_append_drop]
      · have := (List.getElem?_eq_some_iff.1 h1).1
        rw [List.length_take]; omega
    subst ha
    have e1 : (a ++ x :: y :: b).set (a.length + 1) x = a ++ x :: x :: b := by
      rw [List.set_append_right _ _ (by omega), show a.length + 1 - a.length = 1 by omega]; rfl
    have e2 : (a ++ x :: x :: b).set a.length y = a ++ y :: x :: b := by
      rw [List.set_append_right _ _ (by omega), Nat.sub_self]; rfl
    rw [e1, e2]
    exact (List.Perm.swap x y b).append_left a
  exact ⟨fun z hz => hc.1 z (hp.mem_iff.1 hz), (hp.pairwise_iff (fun h e => h e.symm)).2 hc.2⟩

set_option maxHeartbeats 8000000 in
set_option maxRecDepth 100000 in
theorem clauseOf_any (x vars : Int) (w : World) (hx : I64 x) (v1 : 1 ≤ vars) (v2 : vars ≤ 1000) : Calls Tryz.prog 20 #[.int .i64 x, .int .i64 vars] w (RetClause vars w) := by
  obtain ⟨i0, hi0, hz0, hz1, hz2⟩ := info_parts int_info
  have dv0 : (vars == 0) = false := by rw [beq_eq_false_iff_ne]; omega
  go_enter Tryz.func20, Tryz.ntmps20
  go_wp2_with fail
  go_loopw [0, 5, 6] (fun s0 s5 s6 wr => ∃ (k : Nat) (xv : Int) (C : Option Addr) (nc cc : Nat) (cl : List Int), k ≤ 3 ∧ nc ≤ k ∧ s0 = .int .i64 xv ∧ I64 xv ∧ s5 = .slice C nc cc ∧ s6 = .int .i64 k ∧ Hid (Own 3 wr w.heap.size C nc cc (cl.map (Value.int .i64))) ∧ Hid (Lits vars cl) ∧ Hid (Below w.heap.size w wr)) (fun _ _ i _ => 3 - (intOf i).toNat)
  case atStart => exact ⟨0, x, none, 0, 0, [], by omega, Nat.le_refl _, rfl, hx, rfl, rfl, Own.nil _ _ _, ⟨by simp, List.Pairwise.nil⟩, Below.refl _ _⟩
  case round =>
    clear hx
    obtain ⟨k, xv, C, nc, cc, cl, hk, hnk, rfl, hx64, rfl, rfl, hO, hL, hB⟩ := hrel
    obtain ⟨r1, hr1⟩ : ∃ r, Hid (pickF xv 3 = r) := ⟨_, rfl⟩
    have hr1r := pickF_range xv (n := 3) (by omega)
    rw [hr1.out] at hr1r
    have HX := Lib.hid hx64
    obtain ⟨x64a, x64b⟩ := hx64
    go_wp2_with fail
    refine (picked_any xv 3 wr HX.out (by omega) (by omega) r1 hr1).mono ?_
    rintro e wa ⟨rfl, ma, hma⟩
    have hba : Below wr.heap.size wr wa := by rw [hma]; exact below_drewN _ _
    have HOa := Lib.hid (hO.out.keep hba)
    have HBa := Lib.hid (below_next hB.out hba)
    clear hma hba hO hB
    by_cases hkr : (k : Int) ≤ r1
    · have dk : decide ((k : Int) ≤ r1) = true := decide_eq_true hkr
      have H3 : Hid (I64 (xv.tdiv 3)) := tdiv_i64 HX.out (by omega)
      obtain ⟨x1, hx1⟩ : ∃ z, Hid (xv.tdiv 3 = z) := ⟨_, rfl⟩
      rw [hx1.out] at H3
      have HV : Hid (I64 (x1.tdiv vars)) := tdiv_i64 H3.out (by omega)
      obtain ⟨x2, hx2⟩ : ∃ z, Hid (x1.tdiv vars = z) := ⟨_, rfl⟩
      rw [hx2.out] at HV
      obtain ⟨r2, hr2⟩ : ∃ r, Hid (pickF x1 vars = r) := ⟨_, rfl⟩
      have hr2r := pickF_range x1 (n := vars) (by omega)
      rw [hr2.out] at hr2r
      have hx1e := hx1.out
      obtain ⟨y1a, y1b⟩ := H3.out
      go_wp2_with fail
      refine (picked_any x1 vars wa H3.out (by omega) (by omega) r2 hr2).mono ?_
      rintro e wb ⟨rfl, mb, hmb⟩
      have hbb : Below wa.heap.size wa wb := by rw [hmb]; exact below_drewN _ _
      have HOb := Lib.hid (HOa.out.keep hbb)
      have HBb := Lib.hid (below_next HBa.out hbb)
      have hx2e := hx2.out
      obtain ⟨y2a, y2b⟩ := HV.out
      have HI64 : Hid (∀ z ∈ cl, I64 z) := fun z hz => by have := hL.out.1 z hz; unfold I64; omega
      have hnc := HOb.out.sl.le
      clear hmb hbb HOa HBa
      go_wp2_with fail
      clear hx1e hx2e
      go_loopw [8, 9] (fun s8 s9 wr => ∃ (i : Nat) (hd : Bool), i ≤ nc ∧ s8 = .bool hd ∧ s9 = .int .i64 i ∧ Hid ((cl.take i).any (fun y => y == 1 + r2 || y == -(1 + r2)) = hd) ∧ Hid (wr = wb)) (fun _ i _ => nc - (intOf i).toNat)
      case atStart => exact ⟨0, false, Nat.zero_le _, rfl, rfl, by simp [Hid], rfl⟩
      case round =>
        obtain ⟨i, hd, hi, rfl, rfl, hhd, hwr⟩ := hrel
        obtain rfl : wr = wb := hwr.out
        by_cases hin : i < nc
        · obtain ⟨b, off, y, hAe, hbb, hcell, y1, y2, hyk⟩ := (HOb.out.ints HI64.out).round hin
          have htk := Lib.hid (take_snoc_of hyk.out)
          have hyb := hL.out.1 y (List.mem_of_getElem? hyk.out)
          have u1 : (0 : Int) ≤ (i : Int) := by omega
          have u2 : (i : Int) < (nc : Int) := by omega
          have LE : Hid (C = some ⟨b, off, none⟩) := hAe
          subst hAe
          have hst : Hid ((cl.take (i + 1)).any (fun y => y == 1 + r2 || y == -(1 + r2)) = (hd || (y == 1 + r2 || y == -(1 + r2)))) := by
            show _ = _
            rw [htk.out, List.any_append, hhd.out]
            simp
          clear hyk hwr
          cases hd
          · by_cases e1 : y = 1 + r2
            · have d1 : (y == 1 + r2) = true := by rw [beq_iff_eq]; exact e1
              have hst2 : Hid ((cl.take (i + 1)).any (fun y => y == 1 + r2 || y == -(1 + r2)) = true) := by have := hst.out; rw [d1] at this; simpa [Hid] using this
              clear hst
              go_wp2_with fail
              go_roundw
              case rel => exact ⟨i + 1, true, by omega, rfl, by go_num, hst2, (by first | exact rfl | exact trivial)⟩
              case measure => simp [intOf] <;> omega
            · have d1 : (y == 1 + r2) = false := by rw [beq_eq_false_iff_ne]; exact e1
              by_cases e2 : y = -(1 + r2)
              · have d2 : (y == -(1 + r2)) = true := by rw [beq_iff_eq]; exact e2
                have hst2 : Hid ((cl.take (i + 1)).any (fun y => y == 1 + r2 || y == -(1 + r2)) = true) := by have := hst.out; rw [d2] at this; simpa [Hid] using this
                clear hst
                go_wp2_with fail
                go_roundw
                case rel => exact ⟨i + 1, true, by omega, rfl, by go_num, hst2, (by first | exact rfl | exact trivial)⟩
                case measure => simp [intOf] <;> omega
              · have d2 : (y == -(1 + r2)) = false := by rw [beq_eq_false_iff_ne]; exact e2
                have hst2 : Hid ((cl.take (i + 1)).any (fun y => y == 1 + r2 || y == -(1 + r2)) = false) := by have := hst.out; rw [d1, d2] at this; simpa [Hid] using this
                clear hst
                go_wp2_with fail
                go_roundw
                case rel => exact ⟨i + 1, false, by omega, rfl, by go_num, hst2, (by first | exact rfl | exact trivial)⟩
                case measure => simp [intOf] <;> omega
          · have hst2 : Hid ((cl.take (i + 1)).any (fun y => y == 1 + r2 || y == -(1 + r2)) = true) := by have := hst.out; simpa [Hid] using this
            clear hst
            go_wp2_with fail
            go_roundw
            case rel => exact ⟨i + 1, true, by omega, rfl, by go_num, hst2, (by first | exact rfl | exact trivial)⟩
            case measure => simp [intOf] <;> omega
        · have hfin : Hid (cl.any (fun y => y == 1 + r2 || y == -(1 + r2)) = hd) := by
            have := hhd.out
            rw [List.take_of_length_le (by have h9 := HOb.out.len; rw [List.length_map] at h9; omega)] at this
            exact this
          clear hhd hwr
          cases hd
          · have hno : Hid (∀ y ∈ cl, y ≠ 1 + r2 ∧ y ≠ -(1 + r2)) := fun y hy => by
              have := (List.any_eq_false.1 hfin.out) y hy
              simp at this
              exact this
            obtain ⟨pm, hpm⟩ : ∃ z, Hid (x2.tmod 2 = z) := ⟨_, rfl⟩
            have hpme := hpm.out
            by_cases hp : pm = 0
            · have dp : (pm != 0) = false := by rw [hp]; rfl
              have hnew : Hid (Lits vars (cl ++ [1 + r2])) := lits_add hL.out ⟨by omega, by omega, by omega⟩ hno.out
              have hS := ints_made wr 3 [1 + r2] rfl (by simp [I64]; omega) (by simp [maxLen])
              have hqz := HBb.out.size
              go_wp2_with (first
                | (at_builtin
                   refine wpList_append_sl _ rfl (.tmp 57) (.tmp 59) _ rfl w.heap.size 3 i0 _ 8 Tryz.underlying22 hi0 hz0 hz1 hz2 rfl C nc cc _ rfl (HOb.out.keep (below_new _ _)) (some ⟨wr.heap.size, 0, none⟩) 1 1 _ rfl hS.sl (ints_one _) (by simp only [maxLen]; omega) (by omega) (by simp; omega) ?_
                   intro L1 cL1 w9 hL1 hg1 hat1
                   have HL1 := Lib.hid hL1
                   have HB9 := Lib.hid (below_grown (below_alloc HBb.out (.cells #[.int .i64 (1 + r2)] 3)) (HOb.out.keep (below_new wr (.cells #[.int .i64 (1 + r2)] 3))) (Nat.le_refl _) hg1)
                   clear hL1 hg1 hat1))
              go_roundw
              case rel => exact ⟨k + 1, x2, L1, nc + 1, cL1, cl ++ [1 + r2], by omega, by omega, rfl, HV.out, rfl, by go_num, by rw [List.map_append]; exact HL1, hnew, HB9⟩
              case measure => simp [intOf] <;> omega
            · have dp : (pm != 0) = true := by rw [bne_iff_ne]; exact hp
              have hnew : Hid (Lits vars (cl ++ [-(1 + r2)])) := lits_add hL.out ⟨by omega, by omega, by omega⟩ (fun y hy => ⟨(hno.out y hy).2, by rw [Int.neg_neg]; exact (hno.out y hy).1⟩)
              have hS := ints_made wr 3 [-(1 + r2)] rfl (by simp [I64]; omega) (by simp [maxLen])
              have hqz := HBb.out.size
              go_wp2_with (first
                | (at_builtin
                   refine wpList_append_sl _ rfl (.tmp 57) (.tmp 59) _ rfl w.heap.size 3 i0 _ 8 Tryz.underlying22 hi0 hz0 hz1 hz2 rfl C nc cc _ rfl (HOb.out.keep (below_new _ _)) (some ⟨wr.heap.size, 0, none⟩) 1 1 _ rfl hS.sl (ints_one _) (by simp only [maxLen]; omega) (by omega) (by simp; omega) ?_
                   intro L1 cL1 w9 hL1 hg1 hat1
                   have HL1 := Lib.hid hL1
                   have HB9 := Lib.hid (below_grown (below_alloc HBb.out (.cells #[.int .i64 (-(1 + r2))] 3)) (HOb.out.keep (below_new wr (.cells #[.int .i64 (-(1 + r2))] 3))) (Nat.le_refl _) hg1)
                   clear hL1 hg1 hat1))
              go_roundw
              case rel => exact ⟨k + 1, x2, L1, nc + 1, cL1, cl ++ [-(1 + r2)], by omega, by omega, rfl, HV.out, rfl, by go_num, by rw [List.map_append]; exact HL1, hnew, HB9⟩
              case measure => simp [intOf] <;> omega
          · go_wp2_with fail
            go_roundw
            case rel => exact ⟨k + 1, x2, C, nc, cc, cl, by omega, by omega, rfl, HV.out, rfl, by go_num, HOb, hL, HBb⟩
            case measure => simp [intOf] <;> omega
    · have dk : decide ((k : Int) ≤ r1) = false := decide_eq_false hkr
      have hcc := HOa.out.sl.le
      have hcm := HOa.out.sl.cap
      have hcm2 : cc ≤ 9223372036854775807 := by unfold maxLen at hcm; exact hcm
      clear hcm
      go_wp2_with fail
      go_loopw [10] (fun s10 wr => ∃ (i : Nat) (cl : List Int), 1 ≤ i ∧ i ≤ nc + 1 ∧ s10 = .int .i64 i ∧ Hid (Own 3 wr w.heap.size C nc cc (cl.map (Value.int .i64))) ∧ Hid (Lits vars cl) ∧ Hid (Below w.heap.size w wr)) (fun i _ => nc + 1 - (intOf i).toNat)
      case atStart => exact ⟨1, cl, Nat.le_refl _, by omega, rfl, HOa, hL, HBa⟩
      case round =>
        clear HOa hL HBa
        obtain ⟨i, cl, hi1, hin1, rfl, hO, hL, hB⟩ := hrel
        by_cases hin : i < nc
        · have ui : (i : Int) < (nc : Int) := by omega
          go_wp2_with fail
          go_loopw [11] (fun s11 wr => ∃ (j : Nat) (cl : List Int), j ≤ i ∧ s11 = .int .i64 j ∧ Hid (Own 3 wr w.heap.size C nc cc (cl.map (Value.int .i64))) ∧ Hid (Lits vars cl) ∧ Hid (Below w.heap.size w wr)) (fun i _ => (intOf i).toNat)
          case atStart => exact ⟨i, cl, Nat.le_refl _, rfl, hO, hL, hB⟩
          case round =>
            clear hO hL hB
            obtain ⟨j, cl, hj, rfl, hO, hL, hB⟩ := hrel
            by_cases hj0 : j = 0
            · subst hj0
              go_wp2_with fail
              go_quiet (fail)
              go_wp2_with fail
              go_roundw
              case rel => exact ⟨i + 1, cl, by omega, by omega, by go_num, hO.out.keep (below_drewN _ _), hL, below_next hB.out (below_drewN _ _)⟩
              case measure => simp [intOf] <;> omega
            · obtain ⟨j, rfl⟩ : ∃ p, j = p + 1 := ⟨j - 1, by omega⟩
              have HI64 : Hid (∀ z ∈ cl, I64 z) := fun z hz => by have := hL.out.1 z hz; unfold I64; omega
              obtain ⟨b, off, y, hAe, hbb, hcell, y1, y2, hyk⟩ := (hO.out.ints HI64.out).round (show j + 1 < nc by omega)
              obtain ⟨b', off', z, hAe', hbb', hcell', z1, z2, hzk⟩ := (hO.out.ints HI64.out).round (show j < nc by omega)
              have hee := hAe.symm.trans hAe'
              simp only [Option.some.injEq, Addr.mk.injEq, and_true] at hee
              obtain ⟨rfl, rfl⟩ := hee
              have ej : ((j + 1 : Nat) : Int) - 1 = (j : Int) := by omega
              have dj : decide ((0 : Int) < ((j + 1 : Nat) : Int)) = true := decide_eq_true (by omega)
              have hwj : IntKind.i64.wrap (j : Int) = (j : Int) := IntWalk.i64_in _ (by omega)
              have u1 : (0 : Int) ≤ ((j + 1 : Nat) : Int) := by omega
              have u2 : ((j + 1 : Nat) : Int) < (nc : Int) := by omega
              have u3 : (0 : Int) ≤ (j : Int) := by omega
              have u5 : (0 : Int) ≤ (j : Int) + 1 := by omega
              have u6 : (j : Int) + 1 < (nc : Int) := by omega
              have u4 : (j : Int) < (nc : Int) := by omega
              have hyb := hL.out.1 y (List.mem_of_getElem? hyk.out)
              have hzb := hL.out.1 z (List.mem_of_getElem? hzk.out)
              have LE : Hid (C = some ⟨b, off, none⟩) := hAe
              subst hAe
              by_cases hlt : y.natAbs < z.natAbs
              · have dlt : decide ((y.natAbs : Int) < (z.natAbs : Int)) = true := by simp; omega
                have hsw : Hid (Lits vars ((cl.set (j + 1) z).set j y)) := lits_swap hL.out hzk.out hyk.out
                clear hyk hzk hbb' hAe'
                go_wp2_with fail
                go_quiet ((first | (go_at_call 54; with_reducible exact RetQ.quiet (kvar_any y _ (by omega) (by omega))) | (go_at_call 54; with_reducible exact RetQ.quiet (kvar_any z _ (by omega) (by omega)))))
                go_wp2_with fail
                obtain ⟨wd, hwd⟩ : ∃ q : World, q = (wr.drewN nq).drew := ⟨_, rfl⟩
                have hbd : Below wr.heap.size wr wd := by rw [hwd]; exact below_next (below_drewN _ _) (below_drewN _ 1)
                have HO1 := Lib.hid (hO.out.keep hbd)
                have HB1 := Lib.hid (below_next hB.out hbd)
                obtain ⟨gb, ub, hge, _, hgl, hcb, hfb, _⟩ := HO1.out.at_ (show j < nc by omega)
                obtain ⟨gb2, ub2, hge2, _, hgl2, hcb2, hfb2, _⟩ := HO1.out.at_ (show j + 1 < nc by omega)
                simp only [Option.some.injEq, Addr.mk.injEq, and_true] at hge hge2
                obtain ⟨rfl, rfl⟩ := hge
                obtain ⟨rfl, _⟩ := hge2
                rw [Nat.zero_add] at hcell hcell'
                have hS : wd.cell? ⟨b, j, none⟩ = some (.int .i64 z) ∧ wd.cell? ⟨b, j + 1, none⟩ = some (.int .i64 y) := ⟨keepBox hbd hcell', keepBox hbd hcell⟩
                clear hbd hO hB hcell hcell' hcb hcb2
                refine wp_region_tail (fun w' => w'.cell? ⟨b, j, none⟩ = some (.int .i64 z) ∧ w'.cell? ⟨b, j + 1, none⟩ = some (.int .i64 y)) [15, 17] (by kernel_rfl) ?_
                change wpAnyT _ _ _ _ _ _ _ _ _ (wr.drewN nq).drew
                rw [← hwd]
                clear hwd
                refine take0 (i := 0) (oi := _) (v := ?_) rfl (by kernel_rfl) (by kernel_rfl) (by kernel_rfl) (fun _ _ _ h => h) rfl (Or.inl ⟨by rfl, ?_⟩) (fun _ => hS) ?_
                rotate_left
                · intro w0; go_simp; with_reducible rfl
                (try simp only [Act.put, List.setIfInBounds_toArray, List.set_cons_zero, List.set_cons_succ])
                refine take0 (i := 1) (oi := _) (v := ?_) rfl (by kernel_rfl) (by kernel_rfl) (by kernel_rfl) (fun _ _ _ h => h) rfl (Or.inl ⟨by rfl, ?_⟩) (fun _ => hS) ?_
                rotate_left
                · intro w0; go_simp; with_reducible rfl
                (try simp only [Act.put, List.setIfInBounds_toArray, List.set_cons_zero, List.set_cons_succ])
                refine take0 (i := 2) (oi := _) (v := ?_) rfl (by kernel_rfl) (by kernel_rfl) (by kernel_rfl) (fun _ _ _ h => h) rfl (Or.inl ⟨by rfl, ?_⟩) (fun _ => hS) ?_
                rotate_left
                · intro w0; go_simp; with_reducible rfl
                (try simp only [Act.put, List.setIfInBounds_toArray, List.set_cons_zero, List.set_cons_succ])
                refine take0 (i := 3) (oi := _) (v := ?_) rfl (by kernel_rfl) (by kernel_rfl) (by kernel_rfl) (fun _ _ _ h => h) rfl (Or.inl ⟨by rfl, ?_⟩) (fun _ => hS) ?_
                rotate_left
                · intro w0; go_simp; with_reducible rfl
                (try simp only [Act.put, List.setIfInBounds_toArray, List.set_cons_zero, List.set_cons_succ])
                refine take0 (i := 4) (oi := _) (v := ?_) rfl (by kernel_rfl) (by kernel_rfl) (by kernel_rfl) (fun _ _ _ h => h) rfl (Or.inl ⟨by rfl, ?_⟩) (fun _ => hS) ?_
                rotate_left
                · intro w0; go_simp; with_reducible rfl
                (try simp only [Act.put, List.setIfInBounds_toArray, List.set_cons_zero, List.set_cons_succ])
                refine take0 (i := 5) (oi := _) (v := ?_) rfl (by kernel_rfl) (by kernel_rfl) (by kernel_rfl) (fun _ _ _ h => h) rfl (Or.inl ⟨by rfl, ?_⟩) (fun _ => hS) ?_
                rotate_left
                · intro w0; go_simp; with_reducible rfl
                (try simp only [Act.put, List.setIfInBounds_toArray, List.set_cons_zero, List.set_cons_succ])
                refine take0 (i := 6) (oi := _) (v := ?_) rfl (by kernel_rfl) (by kernel_rfl) (by kernel_rfl) (fun _ _ _ h => h) rfl (Or.inl ⟨by rfl, ?_⟩) (fun _ => hS) ?_
                rotate_left
                · intro w0; go_simp; with_reducible rfl
                (try simp only [Act.put, List.setIfInBounds_toArray, List.set_cons_zero, List.set_cons_succ])
                refine take0 (i := 7) (oi := _) (v := ?_) rfl (by kernel_rfl) (by kernel_rfl) (by kernel_rfl) (fun _ _ _ h => h) rfl (Or.inl ⟨by rfl, ?_⟩) (fun _ => hS) ?_
                rotate_left
                · intro w0; go_simp; with_reducible rfl
                (try simp only [Act.put, List.setIfInBounds_toArray, List.set_cons_zero, List.set_cons_succ])
                refine take0 (i := 8) (oi := _) (v := ?_) rfl (by kernel_rfl) (by kernel_rfl) (by kernel_rfl) (fun _ _ _ h => h) rfl (Or.inl ⟨by rfl, ?_⟩) (fun _ => hS) ?_
                rotate_left
                · intro w0; go_simp; with_reducible rfl
                (try simp only [Act.put, List.setIfInBounds_toArray, List.set_cons_zero, List.set_cons_succ])
                refine takeS (i := 9) (oi := _) (v := ?_) rfl (by kernel_rfl) (by kernel_rfl) (by kernel_rfl) (fun _ _ _ h => h) rfl (by kernel_rfl) (by kernel_rfl) (Or.inl ⟨by rfl, ?_⟩) hS ?_
                rotate_left
                · intro w0 hSw; (try dsimp only at hSw); go_simp; with_reducible rfl
                (try simp only [Act.put, List.setIfInBounds_toArray, List.set_cons_zero, List.set_cons_succ])
                refine take0 (i := 10) (oi := _) (v := ?_) rfl (by kernel_rfl) (by kernel_rfl) (by kernel_rfl) (fun _ _ _ h => h) rfl (Or.inl ⟨by rfl, ?_⟩) (fun _ => hS) ?_
                rotate_left
                · intro w0; go_simp; with_reducible rfl
                (try simp only [Act.put, List.setIfInBounds_toArray, List.set_cons_zero, List.set_cons_succ])
                refine take0 (i := 11) (oi := _) (v := ?_) rfl (by kernel_rfl) (by kernel_rfl) (by kernel_rfl) (fun _ _ _ h => h) rfl (Or.inl ⟨by rfl, ?_⟩) (fun _ => hS) ?_
                rotate_left
                · intro w0; go_simp; with_reducible rfl
                (try simp only [Act.put, List.setIfInBounds_toArray, List.set_cons_zero, List.set_cons_succ])
                refine take0 (i := 12) (oi := _) (v := ?_) rfl (by kernel_rfl) (by kernel_rfl) (by kernel_rfl) (fun _ _ _ h => h) rfl (Or.inl ⟨by rfl, ?_⟩) (fun _ => hS) ?_
                rotate_left
                · intro w0; go_simp; with_reducible rfl
                (try simp only [Act.put, List.setIfInBounds_toArray, List.set_cons_zero, List.set_cons_succ])
                refine takeS (i := 13) (oi := _) (v := ?_) rfl (by kernel_rfl) (by kernel_rfl) (by kernel_rfl) (fun _ _ _ h => h) rfl (by kernel_rfl) (by kernel_rfl) (Or.inl ⟨by rfl, ?_⟩) hS ?_
                rotate_left
                · intro w0 hSw; (try dsimp only at hSw); go_simp; with_reducible rfl
                (try simp only [Act.put, List.setIfInBounds_toArray, List.set_cons_zero, List.set_cons_succ])
                refine take0 (i := 14) (oi := _) (v := ?_) rfl (by kernel_rfl) (by kernel_rfl) (by kernel_rfl) (fun _ _ _ h => h) rfl (Or.inl ⟨by rfl, ?_⟩) (fun _ => hS) ?_
                rotate_left
                · intro w0; go_simp; with_reducible rfl
                (try simp only [Act.put, List.setIfInBounds_toArray, List.set_cons_zero, List.set_cons_succ])
                refine oneT (i := 15) (by kernel_rfl) rfl (by rfl) (fun Kq hK => ?_)
                go_simp
                obtain ⟨we, hwe⟩ : ∃ q : World, q = wd.setCell ⟨b, j + 1, none⟩ (.int .i64 z) := ⟨_, rfl⟩
                have HO2 : Hid (Own 3 we w.heap.size (some ⟨b, 0, none⟩) nc cc ((cl.set (j + 1) z).map (Value.int .i64))) := by rw [hwe, List.map_set]; exact HO1.out.set_ (j + 1) (.int .i64 z)
                have HB2 : Hid (Below w.heap.size w we) := by rw [hwe]; exact HB1.out.setCell (p := ⟨b, j + 1, none⟩) (by rcases HO1.out.form with ⟨h9, _⟩ | ⟨g9, _, h9, h8, _⟩; cases h9; cases h9; exact h8) _
                rw [← hwe]
                clear hwe HO1 HB1 hfb hfb2 hgl hgl2
                refine hK _ _ (noT_no (by kernel_rfl)) ?_
                clear hK
                (try simp only [Act.put, List.setIfInBounds_toArray, List.set_cons_zero, List.set_cons_succ])
                refine take0 (i := 16) (oi := _) (v := ?_) rfl (by kernel_rfl) (by kernel_rfl) (by kernel_rfl) (fun _ _ _ h => h) rfl (Or.inl ⟨by rfl, ?_⟩) (noT_no (by kernel_rfl)) ?_
                rotate_left
                · intro w0; go_simp; with_reducible rfl
                (try simp only [Act.put, List.setIfInBounds_toArray, List.set_cons_zero, List.set_cons_succ])
                obtain ⟨_, ub3, hge3, _, hgl3, hcb3, hfb3, _⟩ := HO2.out.at_ (show j < nc by omega)
                cases hge3
                refine oneT (i := 17) (by kernel_rfl) rfl (by rfl) (fun Kq hK => ?_)
                go_simp
                obtain ⟨wf, hwf⟩ : ∃ q : World, q = we.setCell ⟨b, j, none⟩ (.int .i64 y) := ⟨_, rfl⟩
                have HO3 : Hid (Own 3 wf w.heap.size (some ⟨b, 0, none⟩) nc cc (((cl.set (j + 1) z).set j y).map (Value.int .i64))) := by rw [hwf, List.map_set]; exact HO2.out.set_ j (.int .i64 y)
                have HB3 : Hid (Below w.heap.size w wf) := by rw [hwf]; exact HB2.out.setCell (p := ⟨b, j, none⟩) (by rcases HO2.out.form with ⟨h9, _⟩ | ⟨g9, _, h9, h8, _⟩; cases h9; cases h9; exact h8) _
                rw [← hwf]
                clear hwf HO2 HB2 hfb3 hgl3 hcb3
                refine hK _ _ (noT_no (by kernel_rfl)) ?_
                clear hK
                refine doneT (by kernel_rfl) ?_ _
                go_wp2_with fail
                go_roundw
                case rel => exact ⟨j, _, by omega, by go_num, HO3, hsw, HB3⟩
                case measure => simp [intOf] <;> omega
              · have dlt : decide ((y.natAbs : Int) < (z.natAbs : Int)) = false := by simp; omega
                clear hyk hzk hbb' hAe'
                go_wp2_with fail
                go_quiet ((first | (go_at_call 54; with_reducible exact RetQ.quiet (kvar_any y _ (by omega) (by omega))) | (go_at_call 54; with_reducible exact RetQ.quiet (kvar_any z _ (by omega) (by omega)))))
                go_wp2_with fail
                go_roundw
                case rel => exact ⟨i + 1, cl, by omega, by omega, by go_num, hO.out.keep (below_drewN _ _), hL, below_next hB.out (below_drewN _ _)⟩
                case measure => simp [intOf] <;> omega
        · have ui : ¬ (i : Int) < (nc : Int) := by omega
          go_wp2_with fail
          go_ret
          exact ⟨C, nc, cc, cl, rfl, hO.out, hL.out, by omega, hB.out⟩

def RetCnfO (vars : Int) (N : Nat) (w : World) (e : Ending) (w' : World) : Prop :=
  ∃ K k c xss, e = .returned (.agg #[.int .i64 vars, .slice K k c]) ∧ OwnP 22 3 w' w.heap.size w.heap.size K k c xss ∧ (∀ x ∈ xss, Lits vars x ∧ x.length ≤ 3) ∧ k ≤ N ∧ Below w.heap.size w w'
theorem ownP_kT {e : TypeId} {w w' : World} {base low n c : Nat} {A : Option Addr} {xss : List (List Int)} {row : Option Nat} (h : OwnP 22 3 w base low A n c xss) (hg : w.grownBy w' row) (hr : ∀ k, row = some k → low ≤ k ∧ Typed e w k) (n1 : 22 ≠ e) (n2 : (3 : TypeId) ≠ e) : OwnP 22 3 w' base low A n c xss := by
  obtain ⟨vs, h1, h2⟩ := h
  refine ⟨vs, h1.kept hg ?_, h2.kept hg hr n2⟩
  cases row with
  | none => cases A with
    | none => exact .inl rfl
    | some a => exact .inr (by simp [blockOf])
  | some k => exact h1.ne_typed (hr k rfl).2 n1
theorem blk_kept_ {v v' : World} {g : Nat} {t e : TypeId} {cs : Array Value} {row : Option Nat} (h : Blk v g t cs) (hg : v.grownBy v' row) (hr : ∀ q, row = some q → Typed e v q) (n1 : t ≠ e) : Blk v' g t cs := by
  refine h.grown hg fun e1 => ?_
  obtain ⟨cs', fz, hcs⟩ := hr g e1.symm
  unfold Blk at h
  rw [h] at hcs
  injection hcs with hcs
  injection hcs with _ ht
  exact n1 ht

set_option maxHeartbeats 8000000 in
set_option maxRecDepth 100000 in
theorem cnfOf_any (A : Option Addr) (m d : Nat) (raw : List Int) (vars : Int) (N : Nat) (w : World) (h : Ints w A m d raw) (v1 : 1 ≤ vars) (v2 : vars ≤ 1000) (hN : N ≤ 1000) : Calls Tryz.prog 6 #[.slice A m d, .int .i64 vars, .int .i64 N] w (RetCnfO vars N w) := by
  obtain ⟨ir, hir, hr0, hr1, hr2⟩ := info_parts row_info
  have H := Lib.hid h
  have hbd := h.bd
  obtain ⟨W1, hW1⟩ : ∃ z : World, z = (w.alloc (.cells #[.int .i64 0, .slice none 0 0] 25)).alloc (.cells #[.int .i64 vars, .slice none 0 0] 25) := ⟨_, rfl⟩
  have B1 : Hid (Below w.heap.size w W1) := by rw [hW1]; exact below_alloc (below_new _ _) _
  have K1 : Hid (Blk W1 w.heap.size 25 #[.int .i64 0, .slice none 0 0]) := by rw [hW1]; exact (Blk.new _ _ _).alloc _
  have K2 : Hid (Blk W1 (w.heap.size + 1) 25 #[.int .i64 vars, .slice none 0 0]) := by rw [hW1]; have := Blk.new (w.alloc (.cells #[.int .i64 0, .slice none 0 0] 25)) 25 #[.int .i64 vars, .slice none 0 0]; simpa [Hid] using this
  clear h
  go_enter Tryz.func6, Tryz.ntmps6
  go_wp2_with fail
  rw [← hW1]
  clear hW1
  go_loopw [8] (fun s8 wr => ∃ (k : Nat) (K : Option Addr) (c : Nat) (xss : List (List Int)), k ≤ N ∧ k ≤ m ∧ s8 = .int .i64 k ∧ Hid (Blk wr w.heap.size 25 #[.int .i64 0, .slice none 0 0]) ∧ Hid (Blk wr (w.heap.size + 1) 25 #[.int .i64 vars, .slice K k c]) ∧ Hid (OwnP 22 3 wr w.heap.size w.heap.size K k c xss) ∧ Hid (∀ x ∈ xss, Lits vars x ∧ x.length ≤ 3) ∧ Hid (Below w.heap.size w wr)) (fun i _ => m - (intOf i).toNat)
  case atStart => exact ⟨0, none, 0, [], Nat.zero_le _, Nat.zero_le _, rfl, K1, K2, OwnP.nil _ _ _ _ _, by simp [Hid], B1⟩
  case round =>
    clear K1 K2 B1
    obtain ⟨k, K, c, xss, hkN, hkm, rfl, hK1, hK2, hO, hL, hB⟩ := hrel
    have HA := Lib.hid (H.out.keep hB.out)
    by_cases hgo : k < m ∧ k < N
    · obtain ⟨g1, g2⟩ := hgo
      have u1 : (k : Int) < (m : Int) := by omega
      have u2 : (k : Int) < (N : Int) := by omega
      have u3 : (0 : Int) ≤ (k : Int) := by omega
      obtain ⟨b, off, x, hAe, hbb, hcell, x1, x2, hxk⟩ := HA.out.round g1
      have hx64 : Hid (I64 x) := ⟨x1, x2⟩
      have LE : Hid (A = some ⟨b, off, none⟩) := hAe
      subst hAe
      have c1 := hK2.out.cell 1
      simp at c1
      have lt2 := hK2.out.lt
      clear hxk
      go_wp2_with fail
      obtain ⟨wd, hwd⟩ : ∃ q : World, q = wr.drew := ⟨_, rfl⟩
      have hbd : Below wr.heap.size wr wd := by rw [hwd]; exact below_drewN _ 1
      have M1 := Lib.hid (hK1.out.keep hbd)
      have M2 := Lib.hid (hK2.out.keep hbd)
      have MO := Lib.hid (hO.out.keep hbd)
      have MB := Lib.hid (below_next hB.out hbd)
      have hS : wd.cell? ⟨w.heap.size + 1, 1, none⟩ = some (.slice K k c) ∧ wd.cell? ⟨b, off + k, none⟩ = some (.int .i64 x) := ⟨keepBox hbd c1, keepBox hbd hcell⟩
      have z1 := (cell_lt hS.1).1
      have z2 := (cell_lt hS.2).1
      clear hbd hK1 hK2 hO hB c1 hcell lt2 HA hbb
      refine wp_region_tail (fun w' => w'.cell? ⟨w.heap.size + 1, 1, none⟩ = some (.slice K k c) ∧ w'.cell? ⟨b, off + k, none⟩ = some (.int .i64 x)) [11] (by kernel_rfl) ?_
      change wpAnyT _ _ _ _ _ _ _ _ _ wr.drew
      rw [← hwd]
      clear hwd
      refine take0 (i := 0) (oi := _) (v := ?_) rfl (by kernel_rfl) (by kernel_rfl) (by kernel_rfl) (fun _ _ _ h => h) rfl (Or.inl ⟨by rfl, ?_⟩) (fun _ => hS) ?_
      rotate_left
      · intro w0; go_simp; with_reducible rfl
      (try simp only [Act.put, List.setIfInBounds_toArray, List.set_cons_zero, List.set_cons_succ])
      refine takeS (i := 1) (oi := _) (v := ?_) rfl (by kernel_rfl) (by kernel_rfl) (by kernel_rfl) (fun _ _ _ h => h) rfl (by kernel_rfl) (by kernel_rfl) (Or.inl ⟨by rfl, ?_⟩) hS ?_
      rotate_left
      · intro w0 hSw; (try dsimp only at hSw); go_simp; with_reducible rfl
      (try simp only [Act.put, List.setIfInBounds_toArray, List.set_cons_zero, List.set_cons_succ])
      refine take0 (i := 2) (oi := _) (v := ?_) rfl (by kernel_rfl) (by kernel_rfl) (by kernel_rfl) (fun _ _ _ h => h) rfl (Or.inl ⟨by rfl, ?_⟩) (fun _ => hS) ?_
      rotate_left
      · intro w0; go_simp; with_reducible rfl
      (try simp only [Act.put, List.setIfInBounds_toArray, List.set_cons_zero, List.set_cons_succ])
      refine take0 (i := 3) (oi := _) (v := ?_) rfl (by kernel_rfl) (by kernel_rfl) (by kernel_rfl) (fun _ _ _ h => h) rfl (Or.inl ⟨by rfl, ?_⟩) (fun _ => hS) ?_
      rotate_left
      · intro w0; go_simp; with_reducible rfl
      (try simp only [Act.put, List.setIfInBounds_toArray, List.set_cons_zero, List.set_cons_succ])
      refine take0 (i := 4) (oi := _) (v := ?_) rfl (by kernel_rfl) (by kernel_rfl) (by kernel_rfl) (fun _ _ _ h => h) rfl (Or.inl ⟨by rfl, ?_⟩) (fun _ => hS) ?_
      rotate_left
      · intro w0; go_simp; with_reducible rfl
      (try simp only [Act.put, List.setIfInBounds_toArray, List.set_cons_zero, List.set_cons_succ])
      refine takeS (i := 5) (oi := _) (v := ?_) rfl (by kernel_rfl) (by kernel_rfl) (by kernel_rfl) (fun _ _ _ h => h) rfl (by kernel_rfl) (by kernel_rfl) (Or.inl ⟨by rfl, ?_⟩) hS ?_
      rotate_left
      · intro w0 hSw; (try dsimp only at hSw); go_simp; with_reducible rfl
      (try simp only [Act.put, List.setIfInBounds_toArray, List.set_cons_zero, List.set_cons_succ])
      refine take0 (i := 6) (oi := _) (v := ?_) rfl (by kernel_rfl) (by kernel_rfl) (by kernel_rfl) (fun _ _ _ h => h) rfl (Or.inl ⟨by rfl, ?_⟩) (fun _ => hS) ?_
      rotate_left
      · intro w0; go_simp; with_reducible rfl
      (try simp only [Act.put, List.setIfInBounds_toArray, List.set_cons_zero, List.set_cons_succ])
      refine oneT (i := 7) (by kernel_rfl) rfl (by rfl) (fun Kq hK => ?_)
      go_simp
      refine (clauseOf_any x vars wd hx64.out v1 v2).mono ?_
      rintro e w2 ⟨C, nc, cc, cl, rfl, hC, hcl, hnc, hb2⟩
      have N1 := Lib.hid (M1.out.keep hb2)
      have N2 := Lib.hid (M2.out.keep hb2)
      have NO := Lib.hid (MO.out.keep hb2)
      have NB := Lib.hid (below_next MB.out hb2)
      have HC := Lib.hid hC
      have hcl3 : Hid (Lits vars cl ∧ cl.length ≤ 3) := ⟨hcl, by have := hC.len; rw [List.length_map] at this; omega⟩
      have hS2 : w2.cell? ⟨w.heap.size + 1, 1, none⟩ = some (.slice K k c) ∧ w2.cell? ⟨b, off + k, none⟩ = some (.int .i64 x) := ⟨keepBox hb2 hS.1, keepBox hb2 hS.2⟩
      clear hC hcl hb2 M1 M2 MO MB hS
      refine hK _ _ (fun _ => hS2) ?_
      clear hK
      (try simp only [Act.put, List.setIfInBounds_toArray, List.set_cons_zero, List.set_cons_succ])
      refine oneT (i := 8) (by kernel_rfl) rfl (by rfl) (fun Kq hK => ?_)
      go_simp
      obtain ⟨w3, hw3⟩ : ∃ q : World, q = w2.alloc (.cells #[.slice C nc cc] 22) := ⟨_, rfl⟩
      have hb3 : Below w2.heap.size w2 w3 := by rw [hw3]; exact below_new _ _
      have HSS : Hid (Sl w3 (some ⟨w2.heap.size, 0, none⟩) 1 1 [.slice C nc cc]) := by rw [hw3]; exact sl_one w2 22 (.slice C nc cc) rfl
      have P1 := Lib.hid (N1.out.keep hb3)
      have P2 := Lib.hid (N2.out.keep hb3)
      have PO := Lib.hid (NO.out.keep hb3)
      have PB := Lib.hid (below_next NB.out hb3)
      have HC3 := Lib.hid (HC.out.keep hb3)
      have hsz : Hid (w.heap.size ≤ w3.heap.size) := PB.out.size
      have hS3 : w3.cell? ⟨w.heap.size + 1, 1, none⟩ = some (.slice K k c) ∧ w3.cell? ⟨b, off + k, none⟩ = some (.int .i64 x) := ⟨keepBox hb3 hS2.1, keepBox hb3 hS2.2⟩
      rw [← hw3]
      clear hw3 hb3 N1 N2 NO NB HC hS2
      refine hK _ _ (fun _ => hS3) ?_
      clear hK
      (try simp only [Act.put, List.setIfInBounds_toArray, List.set_cons_zero, List.set_cons_succ])
      refine oneT (i := 9) (by kernel_rfl) rfl (by rfl) (fun Kq hK => ?_)
      obtain ⟨vs, hv1, hv2⟩ := PO.out
      have HV1 := Lib.hid hv1
      have HV2 := Lib.hid hv2
      clear hv1 hv2
      refine wp_append_sl _ (.tmp 23) (.tmp 30) 23 rfl w.heap.size 22 ir _ 24 Tryz.underlying23 hir hr0 hr1 hr2 rfl K k c vs rfl HV1.out (some ⟨w2.heap.size, 0, none⟩) 1 1 [.slice C nc cc] rfl HSS.out (by simp [Value.oneCell']) (by simp only [maxLen]; omega) (by omega) hsz.out ?_
      intro K4 c4 w4 hO4 hG4 hA4
      have hty : ∀ q, blockOf K = some q → w.heap.size ≤ q ∧ Typed 22 w3 q := own_rows HV1.out (Nat.le_refl _)
      have hty2 : ∀ q, blockOf K = some q → Typed 22 w3 q := fun q hq => (hty q hq).2
      have Q1 := Lib.hid (blk_kept_ P1.out hG4 hty2 (by decide))
      have Q2 := Lib.hid (blk_kept_ P2.out hG4 hty2 (by decide))
      have HCI : Hid (∀ z ∈ cl, I64 z) := fun z hz => by have := hcl3.out.1.1 z hz; unfold I64; omega
      have QO : Hid (OwnP 22 3 w4 w.heap.size w.heap.size K4 (k + 1) c4 (xss ++ [cl])) := OwnP.push HV1.out HV2.out (Nat.le_refl _) (by decide) (HC3.out.ints HCI.out) (Away.own HC3.out) hO4 hG4
      have QB : Hid (Below w.heap.size w w4) := PB.out.grown hG4 PB.out.size (fun q hq => (hty q hq).1)
      have q1 := Q2.out.cell 1
      simp at q1
      have qf := Q2.out.frozen 1
      have ql := Q2.out.lt
      have hS4 : w4.cell? ⟨w.heap.size + 1, 1, none⟩ = some (.slice K k c) ∧ w4.cell? ⟨b, off + k, none⟩ = some (.int .i64 x) := ⟨q1, by
        have h1 := hS3.2
        have hAb := (H.out.sl.at_ (by omega))
        obtain ⟨b9, o9, e9, hlt9, _⟩ := hAb
        cases e9
        have hne : some b ≠ blockOf K := fun e => by have := (hty b e.symm).1; omega
        exact hG4.cell h1 hne⟩
      clear hO4 hG4 hA4 hty hty2 P1 P2 PO PB HV1 HV2 HSS HC3 hS3
      refine hK _ _ (fun _ => hS4) ?_
      clear hK
      (try simp only [Act.put, List.setIfInBounds_toArray, List.set_cons_zero, List.set_cons_succ])
      refine take0 (i := 10) (oi := _) (v := ?_) rfl (by kernel_rfl) (by kernel_rfl) (by kernel_rfl) (fun _ _ _ h => h) rfl (Or.inl ⟨by rfl, ?_⟩) (fun _ => hS4) ?_
      rotate_left
      · intro w0; go_simp; with_reducible rfl
      (try simp only [Act.put, List.setIfInBounds_toArray, List.set_cons_zero, List.set_cons_succ])
      refine oneT (i := 11) (by kernel_rfl) rfl (by rfl) (fun Kq hK => ?_)
      go_simp
      obtain ⟨w5, hw5⟩ : ∃ q : World, q = w4.setCell ⟨w.heap.size + 1, 1, none⟩ (.slice K4 (k + 1) c4) := ⟨_, rfl⟩
      have hT5 := Typed.of_blk Q2.out
      have R1 : Hid (Blk w5 w.heap.size 25 #[.int .i64 0, .slice none 0 0]) := by rw [hw5]; exact Q1.out.far (p := ⟨w.heap.size + 1, 1, none⟩) (by simp) _
      have R2 : Hid (Blk w5 (w.heap.size + 1) 25 #[.int .i64 vars, .slice K4 (k + 1) c4]) := by rw [hw5]; have := Q2.out.set_ 1 (.slice K4 (k + 1) c4); simpa [Hid] using this
      have RO : Hid (OwnP 22 3 w5 w.heap.size w.heap.size K4 (k + 1) c4 (xss ++ [cl])) := by rw [hw5]; exact ownP_kT (e := 25) QO.out (grown_setCell w4 ⟨w.heap.size + 1, 1, none⟩ _) (fun q hq => by cases hq; exact ⟨Nat.le_succ _, hT5⟩) (by decide) (by decide)
      have RB : Hid (Below w.heap.size w w5) := by rw [hw5]; exact QB.out.setCell (p := ⟨w.heap.size + 1, 1, none⟩) (by simp) _
      rw [← hw5]
      refine hK _ _ (noT_no (by kernel_rfl)) ?_
      clear hK
      refine doneT (by kernel_rfl) ?_ _
      have RL : Hid (∀ x ∈ xss ++ [cl], Lits vars x ∧ x.length ≤ 3) := fun y hy => by
        rcases List.mem_append.1 hy with hy | hy
        · exact hL.out y hy
        · simp at hy; subst hy; exact hcl3.out
      clear hw5 q1 qf ql hS4 Q1 Q2 QO QB
      go_wp2_with fail
      go_roundw
      case rel => exact ⟨k + 1, K4, c4, xss ++ [cl], by omega, by omega, by go_num, R1, R2, RO, RL, RB⟩
      case measure => simp [intOf] <;> omega
    · have hstop : ¬ (k : Int) < (m : Int) ∨ ¬ (k : Int) < (N : Int) := by omega
      have a0 := hK2.out.cell 0
      have a1 := hK2.out.cell 1
      have e0 := hK1.out.cell 0
      have e1 := hK1.out.cell 1
      simp at a0 a1 e0 e1
      have f0 := hK1.out.frozen 0
      have f1 := hK1.out.frozen 1
      have lt1 := hK1.out.lt
      have lt2 := hK2.out.lt
      obtain ⟨wf, hwf⟩ : ∃ z : World, z = (wr.setCell ⟨w.heap.size, 0, none⟩ (.int .i64 vars)).setCell ⟨w.heap.size, 1, none⟩ (.slice K k c) := ⟨_, rfl⟩
      have KZ : Hid (Blk wf w.heap.size 25 #[.int .i64 vars, .slice K k c]) := by
        rw [hwf]
        have := (hK1.out.set_ 0 (.int .i64 vars)).set_ 1 (.slice K k c)
        simpa [Hid] using this
      have HOZ : Hid (OwnP 22 3 wf w.heap.size w.heap.size K k c xss) := by
        rw [hwf]
        have hT := Typed.of_blk hK1.out
        have h1 := ownP_kT (e := 25) hO.out (grown_setCell wr ⟨w.heap.size, 0, none⟩ (.int .i64 vars)) (fun q hq => by cases hq; exact ⟨Nat.le_refl _, hT⟩) (by decide) (by decide)
        exact ownP_kT (e := 25) h1 (grown_setCell _ ⟨w.heap.size, 1, none⟩ (.slice K k c)) (fun q hq => by cases hq; exact ⟨Nat.le_refl _, Typed.of_blk (hK1.out.set_ 0 (.int .i64 vars))⟩) (by decide) (by decide)
      have HBZ : Hid (Below w.heap.size w wf) := by rw [hwf]; exact (hB.out.setCell (p := ⟨w.heap.size, 0, none⟩) (Nat.le_refl _) _).setCell (p := ⟨w.heap.size, 1, none⟩) (Nat.le_refl _) _
      have z0 := KZ.out.cell 0
      have z1 := KZ.out.cell 1
      simp at z0 z1
      have HWF := Lib.hid hwf
      clear hwf hgo
      rcases hstop with hs | hs
      · by_cases hx : (k : Int) < (N : Int)
        all_goals
          go_wp2_with fail
          rw [← HWF.out]
          exact bodyPost_ret (v := .agg #[.int .i64 vars, .slice K k c]) (by simp [results, Tryz.results6, go_sem, z0, z1]) rfl ⟨K, k, c, xss, rfl, HOZ.out, hL.out, hkN, HBZ.out⟩
      · by_cases hx : (k : Int) < (m : Int)
        all_goals
          go_wp2_with fail
          rw [← HWF.out]
          exact bodyPost_ret (v := .agg #[.int .i64 vars, .slice K k c]) (by simp [results, Tryz.results6, go_sem, z0, z1]) rfl ⟨K, k, c, xss, rfl, HOZ.out, hL.out, hkN, HBZ.out⟩
end Go.Proofs.YtlfgcblijfflfaaGreat
