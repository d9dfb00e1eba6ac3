/- The law CnfBack holds: for every input it returns true, and each argument reads behind the call as it read before. -/
import Derived.Test.YtabjbpkojbdgaaaGreatDoorRows
import Derived.Test.YtabjbpkojbdgaaaGreatDoorCards
import Derived.Test.YtabjbpkojbdgaaaGreatDoorTie
import Derived.Test.YtabjbpkojbdgaaaGreatDoorOpen
import Derived.ProofKit
import Derived.LaidMore
import Derived.Lay
import Derived.OpenShut
import Derived.Stop.Joined
import Derived.SevenTiedAt
import Derived.LaidHandle
import Derived.Stop.LaidErr
import Derived.Test.YtabjbpkojbdgaaaGreatDoorCnfBackWalk
import Derived.Test.YtabjbpkojbdgaaaGreatDoorLaidRead
namespace Go.Proofs.YtabjbpkojbdgaaaGreatDoor
open Go.ChangeShapes Go.WideShapes Go.ChangeAt Go.RowKit Go.Deep Go.Joins
set_option linter.unusedVariables false

theorem cnfBack_knob : ownKnob Tryz.prog.godebug = none := by kernel_rfl
theorem cnfBack_laidOut : laidOutB Tryz.prog = true := by kernel_rfl

set_option maxRecDepth 100000 in
/-- The door's own heap meets the condition. -/
theorem cnfBack_met (os : Os) (args : Array Value) : laidMetH Tryz.prog Rows.cnfBackRow.laid ((World.laidAll Tryz.prog os Rows.cnfBackRow.laid).forCall (fun _ _ => 0) ⟨#[], args, []⟩).memory := by
  rw [MakeChecks.laidMetH_plain _ _ _ (by kernel_rfl)]
  exact laidMet_laidAll _ (by kernel_rfl) (by kernel_rfl)

/-- What the condition and the world's shape give the walk. -/
theorem cnfBack_errs {W : World} (h : laidMetH Tryz.prog Rows.cnfBackRow.laid W) (hsh : W.ShapedOpen Tryz.prog) : Errs W := by
  rw [MakeChecks.laidMetH_plain _ _ _ (by kernel_rfl)] at h
  exact errs_of h hsh

set_option maxRecDepth 100000 in
theorem cnfBack_lifted (os : Os) (started : os.Started) (H : Type) (enc : TypeId × Value → H) :
    ReturnsInHanded {} Tryz.checked os 3 .any (fun w args => (Rows.cnfBackSpec.pre enc Tryz.prog Tryz.f3 [] false w args ∧ laidMetH Tryz.prog Rows.cnfBackRow.laid w) ∧ sizedMet enc Tryz.prog Tryz.f3 (OpenSpec.ofChange Rows.cnfBackSpec) false w args) (Rows.cnfBackSpec.post enc Tryz.prog Tryz.f3 false true false false) := by
  refine handed_shaped (C := Tryz.checked) (X := fun w _ => laidMetH Tryz.prog Rows.cnfBackRow.laid w) (fun _ _ _ hh h => h.of_heap hh) cnfBack_knob started (by kernel_rfl) Tryz.func3
    (ChangeSpec.witness_shaped (enc := enc) (C := Tryz.checked) (os := os) (X := fun w _ => laidMetH Tryz.prog Rows.cnfBackRow.laid w) false (World.laidAll Tryz.prog os Rows.cnfBackRow.laid) #[.agg #[.int .i64 0, .slice none 0 0]] 8 (World.laidAll_os _ _ _) (World.shaped_of_ZipB (by kernel_rfl) (by kernel_rfl)) (by kernel_rfl) (by kernel_rfl) (by kernel_rfl) (cnfBack_met os _)) ?_
  intro W base args ds gs before hval0 hW hL hsh
  have hval : ∀ (j : Nat) t v, Tryz.f3.params[j]? = some t → args[j]? = some v → Value.okWide Tryz.prog W .any base t v := hval0
  have hW' := hW
  obtain ⟨p, q, hA0, hV, rfl, hfz, hnd⟩ := hW
  have hA : DataW.TrodAll enc Tryz.prog W 0 (fun _ => true) true Tryz.f3.params.toList args.toList ds p := hA0
  rw [Tryz.params3] at hA hval
  obtain ⟨v0, vs0, d0, ds0, p0, q0, hargs, rfl, rfl, h0, r0⟩ := trodAll_cons hA
  obtain ⟨rfl, rfl, rfl⟩ := trodAll_nil r0
  obtain rfl : args = #[v0] := by cases args; simp_all
  obtain ⟨rfl, rfl⟩ := trodVars_none hV
  have k0 := h0
  have lt0 : ∀ x ∈ p0, x.block < W.heap.size := by obtain ⟨m, hm⟩ := k0; exact DataW.trod_lt m _ _ _ hm
  obtain ⟨vars0, A0, n0, c0, x0, rfl, wv0, w0⟩ := rd_cnf Tryz.underlying24 (by kernel_rfl) (by kernel_rfl) rfl rfl Tryz.underlying3 Tryz.underlying22 Tryz.underlying44 Tryz.underlying3 (by kernel_rfl) (by kernel_rfl) (hval 0 24 v0 rfl rfl) h0
  clear hA0 hval0
  refine (cnfBack_walk _ (cnfBack_errs hL hsh) wv0 w0).mono fun e W' ⟨he, bel⟩ => ?_
  subst he
  exact ⟨_, rfl, _, _, _, [], _, [], hW', trodAll_mk1 (shut_bool Tryz.underlying4 _), (trodAll_cons_mk (Below.trod cnfBack_laidOut (by kernel_rfl) (of_decide_eq_true (by kernel_rfl)) k0 bel lt0) trodAll_mk0), rfl, bel.frame _, fun h => by cases h⟩

/-- THE STATEMENT. -/
theorem cnfBack_holds : Rows.CnfBackSaid :=
  OpenClaim.holds_of_wide 3 Tryz.f3 rfl rfl rfl rfl rfl rfl rfl ⟨rfl, rfl, rfl, rfl, rfl⟩ rfl rfl rfl rfl rfl (by kernel_rfl) Tryz.func3 (by kernel_rfl)
    (of_decide_eq_true (by kernel_rfl)) (by unfold Func.isWrapper; first | (rw [if_pos (by decide +kernel)]; kernel_rfl) | (rw [if_neg (by decide +kernel)]; exact ⟨rfl, rfl⟩))
    (fun os started H enc _ => cnfBack_lifted os started H enc)

/-- THE TIED CARD. -/
theorem cnfBack_card : Rows.CnfBackCardSaid :=
  Claim7.holds_tied_plain_at .later [] Rows.cnfBackCard.laidKinds true (true, "9600f9469984d4223817aa3162cea7435e856aa2483e86c4b65770a95ae54a5f") true
    cnfBack_holds (fun _ h => by cases h) (by kernel_rfl) (fun _ h => by cases h) cnfBack_row_tie rfl ⟨rfl, rfl⟩ (by kernel_rfl) rfl
    (fun f fn hf hfn => by
      obtain rfl : f = 3 := Option.some.inj ((show Tryz.prog.funcNamed "umpirage/umpiragelaw3.CnfBack" = some 3 by kernel_rfl).symm.trans hf) |>.symm
      obtain rfl : fn = Tryz.f3 := (Option.some.inj (Tryz.func3.symm.trans hfn)).symm
      exact ⟨by kernel_rfl, fun j t ht => by
        rw [Tryz.params3] at ht
        have hm : t ∈ [24] := by simpa using Array.mem_of_getElem? ht
        have hall : ([24].all fun u => !Tryz.prog.wantsStandIn u) = true := by kernel_rfl
        exact (show Tryz.prog.wantsStandIn t = false by simpa using List.all_eq_true.1 hall t hm)⟩)
    (by kernel_rfl)
end Go.Proofs.YtabjbpkojbdgaaaGreatDoor
