/-
  No cell of these rows narrows 'for every input' (looked for: loops, veiled, ifaces, maps, wideKeys, modest, calm, conditions, laid).
  DERIVED. THE GIVEN ROWS OF THIS SEAT. 9 by the template 'for every input the law returns true; each argument reads behind the call as it read before'; 0 by the template 'total and deterministic' (their statements: YtghebbkpdldjfaaTotals.lean).
  GIVEN WITH THE SEED: the statements are not yours to turn. If you find one false, say at which input.
  Laid BY PROGRAM, IN A SANDBOX (cutbox-rows.mjs): the forced cells as the released guide's own fill.sh prints them over the translation 7da103119bd7b810… (all of the seat's roots in one cut). By AI agents, Wed Nov 11 2026. No macro, syntax, notation, axiom, sorry.
-/
import Derived.Test.YtghebbkpdldjfaaChecked
import GoSem.Claim
import GoSem.ClaimJoined
import GoSem.ClaimMapViews
import Derived.JoinedTies
import Derived.KernelRfl
namespace Go.Proofs.Ytghebbkpdldjfaa
/- THE CELL 'sum', in the pinned program and in every row, IS THE sha256 OF THE DUMP (.gsa) THAT YtghebbkpdldjfaaProg.lean LOADS. Nothing in Lean hashes anything: it is a label: what it is worth is what the hold of that sum in a sandbox is worth. -/
noncomputable def Try.pinned : Pinned := { name := "ytghebbkpdldjfaa", sum := "7da103119bd7b8103648f6de4ffdd217ae79e9cf2c82c47e59beb3816761bb6f", checked := Try.checked }
namespace Rows
def none {H : Type} : Left H := { results := [], args := [] }

/-- 'umpiragelaw3.CnfGiven': WHATEVER THE INPUT: true; the input reads as it did. -/
def cnfGivenSpec : ChangeSpec := { name := "cnfGiven", fn := fun _ => fun
  | [d1, d2, d3] => { results := [.lit (.bool true)], args := [d1, d2, d3] }
  | _ => none }
def cnfGivenRow : OpenClaim := { program := "ytghebbkpdldjfaa", sum := "7da103119bd7b8103648f6de4ffdd217ae79e9cf2c82c47e59beb3816761bb6f", func := "umpirage/umpiragelaw3.CnfGiven", spec := "cnfGiven", unfollowed := true, recurses := true, apart := false }
def CnfGivenSaid : Prop := cnfGivenRow.holds Try.pinned (OpenSpec.ofChange cnfGivenSpec)

/-- ITS FALSE NEIGHBOUR: 'it returns false'. Refute it at one input. -/
def cnfGivenWrong : ChangeSpec := { name := "cnfGiven", fn := fun _ => fun
  | [d1, d2, d3] => { results := [.lit (.bool false)], args := [d1, d2, d3] }
  | _ => none }
def CnfGivenWrongFalsely : Prop := cnfGivenRow.holds Try.pinned (OpenSpec.ofChange cnfGivenWrong)

/-- 'umpiragelaw3.PropDoes': WHATEVER THE INPUT: true; the input reads as it did. -/
def propDoesSpec : ChangeSpec := { name := "propDoes", fn := fun _ => fun
  | [d1, d2] => { results := [.lit (.bool true)], args := [d1, d2] }
  | _ => none }
def propDoesRow : OpenClaim := { program := "ytghebbkpdldjfaa", sum := "7da103119bd7b8103648f6de4ffdd217ae79e9cf2c82c47e59beb3816761bb6f", func := "umpirage/umpiragelaw3.PropDoes", spec := "propDoes", unfollowed := true, recurses := true, apart := false }
def PropDoesSaid : Prop := propDoesRow.holds Try.pinned (OpenSpec.ofChange propDoesSpec)

/-- ITS FALSE NEIGHBOUR: 'it returns false'. Refute it at one input. -/
def propDoesWrong : ChangeSpec := { name := "propDoes", fn := fun _ => fun
  | [d1, d2] => { results := [.lit (.bool false)], args := [d1, d2] }
  | _ => none }
def PropDoesWrongFalsely : Prop := propDoesRow.holds Try.pinned (OpenSpec.ofChange propDoesWrong)

/-- 'umpiragelaw3.PropWhys': WHATEVER THE INPUT: true; the input reads as it did. -/
def propWhysSpec : ChangeSpec := { name := "propWhys", fn := fun _ => fun
  | [d1, d2] => { results := [.lit (.bool true)], args := [d1, d2] }
  | _ => none }
def propWhysRow : OpenClaim := { program := "ytghebbkpdldjfaa", sum := "7da103119bd7b8103648f6de4ffdd217ae79e9cf2c82c47e59beb3816761bb6f", func := "umpirage/umpiragelaw3.PropWhys", spec := "propWhys", unfollowed := true, recurses := true, apart := false }
def PropWhysSaid : Prop := propWhysRow.holds Try.pinned (OpenSpec.ofChange propWhysSpec)

/-- ITS FALSE NEIGHBOUR: 'it returns false'. Refute it at one input. -/
def propWhysWrong : ChangeSpec := { name := "propWhys", fn := fun _ => fun
  | [d1, d2] => { results := [.lit (.bool false)], args := [d1, d2] }
  | _ => none }
def PropWhysWrongFalsely : Prop := propWhysRow.holds Try.pinned (OpenSpec.ofChange propWhysWrong)

/-- 'umpiragelaw3.PropProbes': WHATEVER THE INPUT: true; the input reads as it did. -/
def propProbesSpec : ChangeSpec := { name := "propProbes", fn := fun _ => fun
  | [d] => { results := [.lit (.bool true)], args := [d] }
  | _ => none }
def propProbesRow : OpenClaim := { program := "ytghebbkpdldjfaa", sum := "7da103119bd7b8103648f6de4ffdd217ae79e9cf2c82c47e59beb3816761bb6f", func := "umpirage/umpiragelaw3.PropProbes", spec := "propProbes", unfollowed := true, recurses := true, apart := false }
def PropProbesSaid : Prop := propProbesRow.holds Try.pinned (OpenSpec.ofChange propProbesSpec)

/-- ITS FALSE NEIGHBOUR: 'it returns false'. Refute it at one input. -/
def propProbesWrong : ChangeSpec := { name := "propProbes", fn := fun _ => fun
  | [d] => { results := [.lit (.bool false)], args := [d] }
  | _ => none }
def PropProbesWrongFalsely : Prop := propProbesRow.holds Try.pinned (OpenSpec.ofChange propProbesWrong)

/-- 'umpiragelaw3.PropProbe': WHATEVER THE INPUT: true; the input reads as it did. -/
def propProbeSpec : ChangeSpec := { name := "propProbe", fn := fun _ => fun
  | [d1, d2] => { results := [.lit (.bool true)], args := [d1, d2] }
  | _ => none }
def propProbeRow : OpenClaim := { program := "ytghebbkpdldjfaa", sum := "7da103119bd7b8103648f6de4ffdd217ae79e9cf2c82c47e59beb3816761bb6f", func := "umpirage/umpiragelaw3.PropProbe", spec := "propProbe", unfollowed := true, recurses := true, apart := false }
def PropProbeSaid : Prop := propProbeRow.holds Try.pinned (OpenSpec.ofChange propProbeSpec)

/-- ITS FALSE NEIGHBOUR: 'it returns false'. Refute it at one input. -/
def propProbeWrong : ChangeSpec := { name := "propProbe", fn := fun _ => fun
  | [d1, d2] => { results := [.lit (.bool false)], args := [d1, d2] }
  | _ => none }
def PropProbeWrongFalsely : Prop := propProbeRow.holds Try.pinned (OpenSpec.ofChange propProbeWrong)

/-- 'umpiragelaw3.PropFalls': WHATEVER THE INPUT: true; the input reads as it did. -/
def propFallsSpec : ChangeSpec := { name := "propFalls", fn := fun _ => fun
  | [d1, d2] => { results := [.lit (.bool true)], args := [d1, d2] }
  | _ => none }
def propFallsRow : OpenClaim := { program := "ytghebbkpdldjfaa", sum := "7da103119bd7b8103648f6de4ffdd217ae79e9cf2c82c47e59beb3816761bb6f", func := "umpirage/umpiragelaw3.PropFalls", spec := "propFalls", unfollowed := true, recurses := true, apart := false }
def PropFallsSaid : Prop := propFallsRow.holds Try.pinned (OpenSpec.ofChange propFallsSpec)

/-- ITS FALSE NEIGHBOUR: 'it returns false'. Refute it at one input. -/
def propFallsWrong : ChangeSpec := { name := "propFalls", fn := fun _ => fun
  | [d1, d2] => { results := [.lit (.bool false)], args := [d1, d2] }
  | _ => none }
def PropFallsWrongFalsely : Prop := propFallsRow.holds Try.pinned (OpenSpec.ofChange propFallsWrong)

/-- 'umpiragelaw3.LearnLevels': WHATEVER THE INPUT: true; the input reads as it did. -/
def learnLevelsSpec : ChangeSpec := { name := "learnLevels", fn := fun _ => fun
  | [d1, d2] => { results := [.lit (.bool true)], args := [d1, d2] }
  | _ => none }
def learnLevelsRow : OpenClaim := { program := "ytghebbkpdldjfaa", sum := "7da103119bd7b8103648f6de4ffdd217ae79e9cf2c82c47e59beb3816761bb6f", func := "umpirage/umpiragelaw3.LearnLevels", spec := "learnLevels", unfollowed := true, recurses := true, apart := false }
def LearnLevelsSaid : Prop := learnLevelsRow.holds Try.pinned (OpenSpec.ofChange learnLevelsSpec)

/-- ITS FALSE NEIGHBOUR: 'it returns false'. Refute it at one input. -/
def learnLevelsWrong : ChangeSpec := { name := "learnLevels", fn := fun _ => fun
  | [d1, d2] => { results := [.lit (.bool false)], args := [d1, d2] }
  | _ => none }
def LearnLevelsWrongFalsely : Prop := learnLevelsRow.holds Try.pinned (OpenSpec.ofChange learnLevelsWrong)

/-- 'umpiragelaw3.PropSound': WHATEVER THE INPUT: true; the input reads as it did. -/
def propSoundSpec : ChangeSpec := { name := "propSound", fn := fun _ => fun
  | [d1, d2, d3] => { results := [.lit (.bool true)], args := [d1, d2, d3] }
  | _ => none }
def propSoundRow : OpenClaim := { program := "ytghebbkpdldjfaa", sum := "7da103119bd7b8103648f6de4ffdd217ae79e9cf2c82c47e59beb3816761bb6f", func := "umpirage/umpiragelaw3.PropSound", spec := "propSound", unfollowed := true, recurses := true, apart := false }
def PropSoundSaid : Prop := propSoundRow.holds Try.pinned (OpenSpec.ofChange propSoundSpec)

/-- ITS FALSE NEIGHBOUR: 'it returns false'. Refute it at one input. -/
def propSoundWrong : ChangeSpec := { name := "propSound", fn := fun _ => fun
  | [d1, d2, d3] => { results := [.lit (.bool false)], args := [d1, d2, d3] }
  | _ => none }
def PropSoundWrongFalsely : Prop := propSoundRow.holds Try.pinned (OpenSpec.ofChange propSoundWrong)

/-- 'umpiragelaw3.PropMore': WHATEVER THE INPUT: true; the input reads as it did. -/
def propMoreSpec : ChangeSpec := { name := "propMore", fn := fun _ => fun
  | [d1, d2, d3] => { results := [.lit (.bool true)], args := [d1, d2, d3] }
  | _ => none }
def propMoreRow : OpenClaim := { program := "ytghebbkpdldjfaa", sum := "7da103119bd7b8103648f6de4ffdd217ae79e9cf2c82c47e59beb3816761bb6f", func := "umpirage/umpiragelaw3.PropMore", spec := "propMore", unfollowed := true, recurses := true, apart := false }
def PropMoreSaid : Prop := propMoreRow.holds Try.pinned (OpenSpec.ofChange propMoreSpec)

/-- ITS FALSE NEIGHBOUR: 'it returns false'. Refute it at one input. -/
def propMoreWrong : ChangeSpec := { name := "propMore", fn := fun _ => fun
  | [d1, d2, d3] => { results := [.lit (.bool false)], args := [d1, d2, d3] }
  | _ => none }
def PropMoreWrongFalsely : Prop := propMoreRow.holds Try.pinned (OpenSpec.ofChange propMoreWrong)

/- THE SECOND FORM. 'bulk': how many values and letters a reading holds, each counted each time it is reached (what is shared counts as often as it is met; a slice's spare places count too). A statement '..UptoSaid' is the law's where the arguments, and the package variables that the reading takes, are together of bulk at most 1048576: NARROWER than '..Said'. Prove '..Said' where nothing that the law and all that it calls make is longer than what came in: it says more and counts as full. Else prove '..UptoSaid'. A law counts once. -/
mutual
def uptoBulk {H : Type} : DataW H → Nat
  | .lit (.string bytes) => bytes.length + 1
  | .lit _ => 1
  | .nil => 1
  | .ptr d => uptoBulk d + 1
  | .slice elems spare => uptoBulkAll elems + uptoBulkAll spare + 1
  | .agg parts => uptoBulkAll parts + 1
  | .iface _ d => uptoBulk d + 1
  | .map entries => uptoBulkEntries entries + 1
  | .held _ => 1
def uptoBulkAll {H : Type} : List (DataW H) → Nat
  | [] => 0
  | d :: r => uptoBulk d + uptoBulkAll r
def uptoBulkEntries {H : Type} : List (Lit × DataW H) → Nat
  | [] => 0
  | x :: r => uptoBulkEntry x + uptoBulkEntries r
def uptoBulkEntry {H : Type} : Lit × DataW H → Nat
  | (.string bytes, d) => bytes.length + uptoBulk d + 1
  | (_, d) => uptoBulk d + 1
 end
def uptoSmall : (H : Type) → List (DataW H) → Bool := fun _ ds => decide (uptoBulkAll ds ≤ 1048576)
def OpenSpec.upto (s : _root_.Go.ChangeSpec) : _root_.Go.OpenSpec := { _root_.Go.OpenSpec.ofChange s with cond := some uptoSmall }

/-- 'umpiragelaw3.CnfGiven', WHERE WHAT IT READS IS OF BULK AT MOST 1048576: true; the input reads as it did. -/
def cnfGivenUptoRow : OpenClaim := { program := "ytghebbkpdldjfaa", sum := "7da103119bd7b8103648f6de4ffdd217ae79e9cf2c82c47e59beb3816761bb6f", func := "umpirage/umpiragelaw3.CnfGiven", spec := "cnfGiven", unfollowed := true, recurses := true, apart := false, narrowed := true }
def CnfGivenUptoSaid : Prop := cnfGivenUptoRow.holds Try.pinned (OpenSpec.upto cnfGivenSpec)

/-- 'umpiragelaw3.PropDoes', WHERE WHAT IT READS IS OF BULK AT MOST 1048576: true; the input reads as it did. -/
def propDoesUptoRow : OpenClaim := { program := "ytghebbkpdldjfaa", sum := "7da103119bd7b8103648f6de4ffdd217ae79e9cf2c82c47e59beb3816761bb6f", func := "umpirage/umpiragelaw3.PropDoes", spec := "propDoes", unfollowed := true, recurses := true, apart := false, narrowed := true }
def PropDoesUptoSaid : Prop := propDoesUptoRow.holds Try.pinned (OpenSpec.upto propDoesSpec)

/-- 'umpiragelaw3.PropWhys', WHERE WHAT IT READS IS OF BULK AT MOST 1048576: true; the input reads as it did. -/
def propWhysUptoRow : OpenClaim := { program := "ytghebbkpdldjfaa", sum := "7da103119bd7b8103648f6de4ffdd217ae79e9cf2c82c47e59beb3816761bb6f", func := "umpirage/umpiragelaw3.PropWhys", spec := "propWhys", unfollowed := true, recurses := true, apart := false, narrowed := true }
def PropWhysUptoSaid : Prop := propWhysUptoRow.holds Try.pinned (OpenSpec.upto propWhysSpec)

/-- 'umpiragelaw3.PropProbes', WHERE WHAT IT READS IS OF BULK AT MOST 1048576: true; the input reads as it did. -/
def propProbesUptoRow : OpenClaim := { program := "ytghebbkpdldjfaa", sum := "7da103119bd7b8103648f6de4ffdd217ae79e9cf2c82c47e59beb3816761bb6f", func := "umpirage/umpiragelaw3.PropProbes", spec := "propProbes", unfollowed := true, recurses := true, apart := false, narrowed := true }
def PropProbesUptoSaid : Prop := propProbesUptoRow.holds Try.pinned (OpenSpec.upto propProbesSpec)

/-- 'umpiragelaw3.PropProbe', WHERE WHAT IT READS IS OF BULK AT MOST 1048576: true; the input reads as it did. -/
def propProbeUptoRow : OpenClaim := { program := "ytghebbkpdldjfaa", sum := "7da103119bd7b8103648f6de4ffdd217ae79e9cf2c82c47e59beb3816761bb6f", func := "umpirage/umpiragelaw3.PropProbe", spec := "propProbe", unfollowed := true, recurses := true, apart := false, narrowed := true }
def PropProbeUptoSaid : Prop := propProbeUptoRow.holds Try.pinned (OpenSpec.upto propProbeSpec)

/-- 'umpiragelaw3.PropFalls', WHERE WHAT IT READS IS OF BULK AT MOST 1048576: true; the input reads as it did. -/
def propFallsUptoRow : OpenClaim := { program := "ytghebbkpdldjfaa", sum := "7da103119bd7b8103648f6de4ffdd217ae79e9cf2c82c47e59beb3816761bb6f", func := "umpirage/umpiragelaw3.PropFalls", spec := "propFalls", unfollowed := true, recurses := true, apart := false, narrowed := true }
def PropFallsUptoSaid : Prop := propFallsUptoRow.holds Try.pinned (OpenSpec.upto propFallsSpec)

/-- 'umpiragelaw3.LearnLevels', WHERE WHAT IT READS IS OF BULK AT MOST 1048576: true; the input reads as it did. -/
def learnLevelsUptoRow : OpenClaim := { program := "ytghebbkpdldjfaa", sum := "7da103119bd7b8103648f6de4ffdd217ae79e9cf2c82c47e59beb3816761bb6f", func := "umpirage/umpiragelaw3.LearnLevels", spec := "learnLevels", unfollowed := true, recurses := true, apart := false, narrowed := true }
def LearnLevelsUptoSaid : Prop := learnLevelsUptoRow.holds Try.pinned (OpenSpec.upto learnLevelsSpec)

/-- 'umpiragelaw3.PropSound', WHERE WHAT IT READS IS OF BULK AT MOST 1048576: true; the input reads as it did. -/
def propSoundUptoRow : OpenClaim := { program := "ytghebbkpdldjfaa", sum := "7da103119bd7b8103648f6de4ffdd217ae79e9cf2c82c47e59beb3816761bb6f", func := "umpirage/umpiragelaw3.PropSound", spec := "propSound", unfollowed := true, recurses := true, apart := false, narrowed := true }
def PropSoundUptoSaid : Prop := propSoundUptoRow.holds Try.pinned (OpenSpec.upto propSoundSpec)

/-- 'umpiragelaw3.PropMore', WHERE WHAT IT READS IS OF BULK AT MOST 1048576: true; the input reads as it did. -/
def propMoreUptoRow : OpenClaim := { program := "ytghebbkpdldjfaa", sum := "7da103119bd7b8103648f6de4ffdd217ae79e9cf2c82c47e59beb3816761bb6f", func := "umpirage/umpiragelaw3.PropMore", spec := "propMore", unfollowed := true, recurses := true, apart := false, narrowed := true }
def PropMoreUptoSaid : Prop := propMoreUptoRow.holds Try.pinned (OpenSpec.upto propMoreSpec)

end Rows
end Go.Proofs.Ytghebbkpdldjfaa
