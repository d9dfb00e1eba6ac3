/-
  No cell of these rows narrows 'for every input' (looked for: loops, veiled, ifaces, maps, wideKeys, modest, calm, conditions, laid).
  DERIVED. THE GIVEN ROWS OF THIS SEAT. 12 by the template 'for every input the law returns true; each argument reads behind the call as it read before'; 0 by the template 'total and deterministic' (their statements: YtecgmgidfjbamaaTotals.lean).
  GIVEN WITH THE SEED: the statements are not yours to turn. If you find one false, say at which input.
  Laid BY PROGRAM, IN A SANDBOX (cutbox-rows.mjs): the forced cells as the released guide's own fill.sh prints them over the translation ff0faec2c0280f45… (all of the seat's roots in one cut). By AI agents, Wed Nov 11 2026. No macro, syntax, notation, axiom, sorry.
-/
import Derived.Test.YtecgmgidfjbamaaChecked
import GoSem.Claim
import GoSem.ClaimJoined
import GoSem.ClaimMapViews
import Derived.JoinedTies
import Derived.KernelRfl
namespace Go.Proofs.Ytecgmgidfjbamaa
/- THE CELL 'sum', in the pinned program and in every row, IS THE sha256 OF THE DUMP (.gsa) THAT YtecgmgidfjbamaaProg.lean LOADS. Nothing in Lean hashes anything: it is a label: what it is worth is what the hold of that sum in a sandbox is worth. -/
noncomputable def Try.pinned : Pinned := { name := "ytecgmgidfjbamaa", sum := "ff0faec2c0280f45d1977a0d5fb929d4bc57f3c474ea64f7d246f91e12ead868", checked := Try.checked }
namespace Rows
def none {H : Type} : Left H := { results := [], args := [] }

/-- 'umpiragelaw3.ElimBlocks': WHATEVER THE INPUT: true; the input reads as it did. -/
def elimBlocksSpec : ChangeSpec := { name := "elimBlocks", fn := fun _ => fun
  | [d1, d2] => { results := [.lit (.bool true)], args := [d1, d2] }
  | _ => none }
def elimBlocksRow : OpenClaim := { program := "ytecgmgidfjbamaa", sum := "ff0faec2c0280f45d1977a0d5fb929d4bc57f3c474ea64f7d246f91e12ead868", func := "umpirage/umpiragelaw3.ElimBlocks", spec := "elimBlocks", unfollowed := true, recurses := true, apart := false }
def ElimBlocksSaid : Prop := elimBlocksRow.holds Try.pinned (OpenSpec.ofChange elimBlocksSpec)

/-- ITS FALSE NEIGHBOUR: 'it returns false'. Refute it at one input. -/
def elimBlocksWrong : ChangeSpec := { name := "elimBlocks", fn := fun _ => fun
  | [d1, d2] => { results := [.lit (.bool false)], args := [d1, d2] }
  | _ => none }
def ElimBlocksWrongFalsely : Prop := elimBlocksRow.holds Try.pinned (OpenSpec.ofChange elimBlocksWrong)

/-- 'umpiragelaw3.ElimBlocked': WHATEVER THE INPUT: true; the input reads as it did. -/
def elimBlockedSpec : ChangeSpec := { name := "elimBlocked", fn := fun _ => fun
  | [d1, d2, d3] => { results := [.lit (.bool true)], args := [d1, d2, d3] }
  | _ => none }
def elimBlockedRow : OpenClaim := { program := "ytecgmgidfjbamaa", sum := "ff0faec2c0280f45d1977a0d5fb929d4bc57f3c474ea64f7d246f91e12ead868", func := "umpirage/umpiragelaw3.ElimBlocked", spec := "elimBlocked", unfollowed := true, recurses := true, apart := false }
def ElimBlockedSaid : Prop := elimBlockedRow.holds Try.pinned (OpenSpec.ofChange elimBlockedSpec)

/-- ITS FALSE NEIGHBOUR: 'it returns false'. Refute it at one input. -/
def elimBlockedWrong : ChangeSpec := { name := "elimBlocked", fn := fun _ => fun
  | [d1, d2, d3] => { results := [.lit (.bool false)], args := [d1, d2, d3] }
  | _ => none }
def ElimBlockedWrongFalsely : Prop := elimBlockedRow.holds Try.pinned (OpenSpec.ofChange elimBlockedWrong)

/-- 'umpiragelaw3.CnfNorms': WHATEVER THE INPUT: true; the input reads as it did. -/
def cnfNormsSpec : ChangeSpec := { name := "cnfNorms", fn := fun _ => fun
  | [d] => { results := [.lit (.bool true)], args := [d] }
  | _ => none }
def cnfNormsRow : OpenClaim := { program := "ytecgmgidfjbamaa", sum := "ff0faec2c0280f45d1977a0d5fb929d4bc57f3c474ea64f7d246f91e12ead868", func := "umpirage/umpiragelaw3.CnfNorms", spec := "cnfNorms", unfollowed := true, recurses := true, apart := false }
def CnfNormsSaid : Prop := cnfNormsRow.holds Try.pinned (OpenSpec.ofChange cnfNormsSpec)

/-- ITS FALSE NEIGHBOUR: 'it returns false'. Refute it at one input. -/
def cnfNormsWrong : ChangeSpec := { name := "cnfNorms", fn := fun _ => fun
  | [d] => { results := [.lit (.bool false)], args := [d] }
  | _ => none }
def CnfNormsWrongFalsely : Prop := cnfNormsRow.holds Try.pinned (OpenSpec.ofChange cnfNormsWrong)

/-- 'umpiragelaw3.CnfSame': WHATEVER THE INPUT: true; the input reads as it did. -/
def cnfSameSpec : ChangeSpec := { name := "cnfSame", fn := fun _ => fun
  | [d1, d2] => { results := [.lit (.bool true)], args := [d1, d2] }
  | _ => none }
def cnfSameRow : OpenClaim := { program := "ytecgmgidfjbamaa", sum := "ff0faec2c0280f45d1977a0d5fb929d4bc57f3c474ea64f7d246f91e12ead868", func := "umpirage/umpiragelaw3.CnfSame", spec := "cnfSame", unfollowed := true, recurses := true, apart := false }
def CnfSameSaid : Prop := cnfSameRow.holds Try.pinned (OpenSpec.ofChange cnfSameSpec)

/-- ITS FALSE NEIGHBOUR: 'it returns false'. Refute it at one input. -/
def cnfSameWrong : ChangeSpec := { name := "cnfSame", fn := fun _ => fun
  | [d1, d2] => { results := [.lit (.bool false)], args := [d1, d2] }
  | _ => none }
def CnfSameWrongFalsely : Prop := cnfSameRow.holds Try.pinned (OpenSpec.ofChange cnfSameWrong)

/-- 'umpiragelaw3.ResChecks': WHATEVER THE INPUT: true; the input reads as it did. -/
def resChecksSpec : ChangeSpec := { name := "resChecks", fn := fun _ => fun
  | [d1, d2] => { results := [.lit (.bool true)], args := [d1, d2] }
  | _ => none }
def resChecksRow : OpenClaim := { program := "ytecgmgidfjbamaa", sum := "ff0faec2c0280f45d1977a0d5fb929d4bc57f3c474ea64f7d246f91e12ead868", func := "umpirage/umpiragelaw3.ResChecks", spec := "resChecks", unfollowed := true, recurses := true, apart := false }
def ResChecksSaid : Prop := resChecksRow.holds Try.pinned (OpenSpec.ofChange resChecksSpec)

/-- ITS FALSE NEIGHBOUR: 'it returns false'. Refute it at one input. -/
def resChecksWrong : ChangeSpec := { name := "resChecks", fn := fun _ => fun
  | [d1, d2] => { results := [.lit (.bool false)], args := [d1, d2] }
  | _ => none }
def ResChecksWrongFalsely : Prop := resChecksRow.holds Try.pinned (OpenSpec.ofChange resChecksWrong)

/-- 'umpiragelaw3.ResSound': WHATEVER THE INPUT: true; the input reads as it did. -/
def resSoundSpec : ChangeSpec := { name := "resSound", fn := fun _ => fun
  | [d1, d2, d3] => { results := [.lit (.bool true)], args := [d1, d2, d3] }
  | _ => none }
def resSoundRow : OpenClaim := { program := "ytecgmgidfjbamaa", sum := "ff0faec2c0280f45d1977a0d5fb929d4bc57f3c474ea64f7d246f91e12ead868", func := "umpirage/umpiragelaw3.ResSound", spec := "resSound", unfollowed := true, recurses := true, apart := false }
def ResSoundSaid : Prop := resSoundRow.holds Try.pinned (OpenSpec.ofChange resSoundSpec)

/-- ITS FALSE NEIGHBOUR: 'it returns false'. Refute it at one input. -/
def resSoundWrong : ChangeSpec := { name := "resSound", fn := fun _ => fun
  | [d1, d2, d3] => { results := [.lit (.bool false)], args := [d1, d2, d3] }
  | _ => none }
def ResSoundWrongFalsely : Prop := resSoundRow.holds Try.pinned (OpenSpec.ofChange resSoundWrong)

/-- 'umpiragelaw3.SubDoes': WHATEVER THE INPUT: true; the input reads as it did. -/
def subDoesSpec : ChangeSpec := { name := "subDoes", fn := fun _ => fun
  | [d] => { results := [.lit (.bool true)], args := [d] }
  | _ => none }
def subDoesRow : OpenClaim := { program := "ytecgmgidfjbamaa", sum := "ff0faec2c0280f45d1977a0d5fb929d4bc57f3c474ea64f7d246f91e12ead868", func := "umpirage/umpiragelaw3.SubDoes", spec := "subDoes", unfollowed := true, recurses := true, apart := false }
def SubDoesSaid : Prop := subDoesRow.holds Try.pinned (OpenSpec.ofChange subDoesSpec)

/-- ITS FALSE NEIGHBOUR: 'it returns false'. Refute it at one input. -/
def subDoesWrong : ChangeSpec := { name := "subDoes", fn := fun _ => fun
  | [d] => { results := [.lit (.bool false)], args := [d] }
  | _ => none }
def SubDoesWrongFalsely : Prop := subDoesRow.holds Try.pinned (OpenSpec.ofChange subDoesWrong)

/-- 'umpiragelaw3.SubSame': WHATEVER THE INPUT: true; the input reads as it did. -/
def subSameSpec : ChangeSpec := { name := "subSame", fn := fun _ => fun
  | [d1, d2] => { results := [.lit (.bool true)], args := [d1, d2] }
  | _ => none }
def subSameRow : OpenClaim := { program := "ytecgmgidfjbamaa", sum := "ff0faec2c0280f45d1977a0d5fb929d4bc57f3c474ea64f7d246f91e12ead868", func := "umpirage/umpiragelaw3.SubSame", spec := "subSame", unfollowed := true, recurses := true, apart := false }
def SubSameSaid : Prop := subSameRow.holds Try.pinned (OpenSpec.ofChange subSameSpec)

/-- ITS FALSE NEIGHBOUR: 'it returns false'. Refute it at one input. -/
def subSameWrong : ChangeSpec := { name := "subSame", fn := fun _ => fun
  | [d1, d2] => { results := [.lit (.bool false)], args := [d1, d2] }
  | _ => none }
def SubSameWrongFalsely : Prop := subSameRow.holds Try.pinned (OpenSpec.ofChange subSameWrong)

/-- 'umpiragelaw3.ElimDoes': WHATEVER THE INPUT: true; the input reads as it did. -/
def elimDoesSpec : ChangeSpec := { name := "elimDoes", fn := fun _ => fun
  | [d1, d2] => { results := [.lit (.bool true)], args := [d1, d2] }
  | _ => none }
def elimDoesRow : OpenClaim := { program := "ytecgmgidfjbamaa", sum := "ff0faec2c0280f45d1977a0d5fb929d4bc57f3c474ea64f7d246f91e12ead868", func := "umpirage/umpiragelaw3.ElimDoes", spec := "elimDoes", unfollowed := true, recurses := true, apart := false }
def ElimDoesSaid : Prop := elimDoesRow.holds Try.pinned (OpenSpec.ofChange elimDoesSpec)

/-- ITS FALSE NEIGHBOUR: 'it returns false'. Refute it at one input. -/
def elimDoesWrong : ChangeSpec := { name := "elimDoes", fn := fun _ => fun
  | [d1, d2] => { results := [.lit (.bool false)], args := [d1, d2] }
  | _ => none }
def ElimDoesWrongFalsely : Prop := elimDoesRow.holds Try.pinned (OpenSpec.ofChange elimDoesWrong)

/-- 'umpiragelaw3.ElimMends': WHATEVER THE INPUT: true; the input reads as it did. -/
def elimMendsSpec : ChangeSpec := { name := "elimMends", fn := fun _ => fun
  | [d1, d2, d3] => { results := [.lit (.bool true)], args := [d1, d2, d3] }
  | _ => none }
def elimMendsRow : OpenClaim := { program := "ytecgmgidfjbamaa", sum := "ff0faec2c0280f45d1977a0d5fb929d4bc57f3c474ea64f7d246f91e12ead868", func := "umpirage/umpiragelaw3.ElimMends", spec := "elimMends", unfollowed := true, recurses := true, apart := false }
def ElimMendsSaid : Prop := elimMendsRow.holds Try.pinned (OpenSpec.ofChange elimMendsSpec)

/-- ITS FALSE NEIGHBOUR: 'it returns false'. Refute it at one input. -/
def elimMendsWrong : ChangeSpec := { name := "elimMends", fn := fun _ => fun
  | [d1, d2, d3] => { results := [.lit (.bool false)], args := [d1, d2, d3] }
  | _ => none }
def ElimMendsWrongFalsely : Prop := elimMendsRow.holds Try.pinned (OpenSpec.ofChange elimMendsWrong)

/-- 'umpiragelaw3.ElimModels': WHATEVER THE INPUT: true; the input reads as it did. -/
def elimModelsSpec : ChangeSpec := { name := "elimModels", fn := fun _ => fun
  | [d1, d2, d3] => { results := [.lit (.bool true)], args := [d1, d2, d3] }
  | _ => none }
def elimModelsRow : OpenClaim := { program := "ytecgmgidfjbamaa", sum := "ff0faec2c0280f45d1977a0d5fb929d4bc57f3c474ea64f7d246f91e12ead868", func := "umpirage/umpiragelaw3.ElimModels", spec := "elimModels", unfollowed := true, recurses := true, apart := false }
def ElimModelsSaid : Prop := elimModelsRow.holds Try.pinned (OpenSpec.ofChange elimModelsSpec)

/-- ITS FALSE NEIGHBOUR: 'it returns false'. Refute it at one input. -/
def elimModelsWrong : ChangeSpec := { name := "elimModels", fn := fun _ => fun
  | [d1, d2, d3] => { results := [.lit (.bool false)], args := [d1, d2, d3] }
  | _ => none }
def ElimModelsWrongFalsely : Prop := elimModelsRow.holds Try.pinned (OpenSpec.ofChange elimModelsWrong)

/-- 'umpiragelaw3.OrderKeeps': WHATEVER THE INPUT: true; the input reads as it did. -/
def orderKeepsSpec : ChangeSpec := { name := "orderKeeps", fn := fun _ => fun
  | [d1, d2, d3] => { results := [.lit (.bool true)], args := [d1, d2, d3] }
  | _ => none }
def orderKeepsRow : OpenClaim := { program := "ytecgmgidfjbamaa", sum := "ff0faec2c0280f45d1977a0d5fb929d4bc57f3c474ea64f7d246f91e12ead868", func := "umpirage/umpiragelaw3.OrderKeeps", spec := "orderKeeps", unfollowed := true, recurses := true, apart := false }
def OrderKeepsSaid : Prop := orderKeepsRow.holds Try.pinned (OpenSpec.ofChange orderKeepsSpec)

/-- ITS FALSE NEIGHBOUR: 'it returns false'. Refute it at one input. -/
def orderKeepsWrong : ChangeSpec := { name := "orderKeeps", fn := fun _ => fun
  | [d1, d2, d3] => { results := [.lit (.bool false)], args := [d1, d2, d3] }
  | _ => none }
def OrderKeepsWrongFalsely : Prop := orderKeepsRow.holds Try.pinned (OpenSpec.ofChange orderKeepsWrong)

/- THE SECOND FORM. 'bulk': how many values and letters a reading holds, each counted each time it is reached (what is shared counts as often as it is met; a slice's spare places count too). A statement '..UptoSaid' is the law's where the arguments, and the package variables that the reading takes, are together of bulk at most 1048576: NARROWER than '..Said'. Prove '..Said' where nothing that the law and all that it calls make is longer than what came in: it says more and counts as full. Else prove '..UptoSaid'. A law counts once. -/
mutual
def uptoBulk {H : Type} : DataW H → Nat
  | .lit (.string bytes) => bytes.length + 1
  | .lit _ => 1
  | .nil => 1
  | .ptr d => uptoBulk d + 1
  | .slice elems spare => uptoBulkAll elems + uptoBulkAll spare + 1
  | .agg parts => uptoBulkAll parts + 1
  | .iface _ d => uptoBulk d + 1
  | .map entries => uptoBulkEntries entries + 1
  | .held _ => 1
def uptoBulkAll {H : Type} : List (DataW H) → Nat
  | [] => 0
  | d :: r => uptoBulk d + uptoBulkAll r
def uptoBulkEntries {H : Type} : List (Lit × DataW H) → Nat
  | [] => 0
  | x :: r => uptoBulkEntry x + uptoBulkEntries r
def uptoBulkEntry {H : Type} : Lit × DataW H → Nat
  | (.string bytes, d) => bytes.length + uptoBulk d + 1
  | (_, d) => uptoBulk d + 1
 end
def uptoSmall : (H : Type) → List (DataW H) → Bool := fun _ ds => decide (uptoBulkAll ds ≤ 1048576)
def OpenSpec.upto (s : _root_.Go.ChangeSpec) : _root_.Go.OpenSpec := { _root_.Go.OpenSpec.ofChange s with cond := some uptoSmall }

/-- 'umpiragelaw3.ElimBlocks', WHERE WHAT IT READS IS OF BULK AT MOST 1048576: true; the input reads as it did. -/
def elimBlocksUptoRow : OpenClaim := { program := "ytecgmgidfjbamaa", sum := "ff0faec2c0280f45d1977a0d5fb929d4bc57f3c474ea64f7d246f91e12ead868", func := "umpirage/umpiragelaw3.ElimBlocks", spec := "elimBlocks", unfollowed := true, recurses := true, apart := false, narrowed := true }
def ElimBlocksUptoSaid : Prop := elimBlocksUptoRow.holds Try.pinned (OpenSpec.upto elimBlocksSpec)

/-- 'umpiragelaw3.ElimBlocked', WHERE WHAT IT READS IS OF BULK AT MOST 1048576: true; the input reads as it did. -/
def elimBlockedUptoRow : OpenClaim := { program := "ytecgmgidfjbamaa", sum := "ff0faec2c0280f45d1977a0d5fb929d4bc57f3c474ea64f7d246f91e12ead868", func := "umpirage/umpiragelaw3.ElimBlocked", spec := "elimBlocked", unfollowed := true, recurses := true, apart := false, narrowed := true }
def ElimBlockedUptoSaid : Prop := elimBlockedUptoRow.holds Try.pinned (OpenSpec.upto elimBlockedSpec)

/-- 'umpiragelaw3.CnfNorms', WHERE WHAT IT READS IS OF BULK AT MOST 1048576: true; the input reads as it did. -/
def cnfNormsUptoRow : OpenClaim := { program := "ytecgmgidfjbamaa", sum := "ff0faec2c0280f45d1977a0d5fb929d4bc57f3c474ea64f7d246f91e12ead868", func := "umpirage/umpiragelaw3.CnfNorms", spec := "cnfNorms", unfollowed := true, recurses := true, apart := false, narrowed := true }
def CnfNormsUptoSaid : Prop := cnfNormsUptoRow.holds Try.pinned (OpenSpec.upto cnfNormsSpec)

/-- 'umpiragelaw3.CnfSame', WHERE WHAT IT READS IS OF BULK AT MOST 1048576: true; the input reads as it did. -/
def cnfSameUptoRow : OpenClaim := { program := "ytecgmgidfjbamaa", sum := "ff0faec2c0280f45d1977a0d5fb929d4bc57f3c474ea64f7d246f91e12ead868", func := "umpirage/umpiragelaw3.CnfSame", spec := "cnfSame", unfollowed := true, recurses := true, apart := false, narrowed := true }
def CnfSameUptoSaid : Prop := cnfSameUptoRow.holds Try.pinned (OpenSpec.upto cnfSameSpec)

/-- 'umpiragelaw3.ResChecks', WHERE WHAT IT READS IS OF BULK AT MOST 1048576: true; the input reads as it did. -/
def resChecksUptoRow : OpenClaim := { program := "ytecgmgidfjbamaa", sum := "ff0faec2c0280f45d1977a0d5fb929d4bc57f3c474ea64f7d246f91e12ead868", func := "umpirage/umpiragelaw3.ResChecks", spec := "resChecks", unfollowed := true, recurses := true, apart := false, narrowed := true }
def ResChecksUptoSaid : Prop := resChecksUptoRow.holds Try.pinned (OpenSpec.upto resChecksSpec)

/-- 'umpiragelaw3.ResSound', WHERE WHAT IT READS IS OF BULK AT MOST 1048576: true; the input reads as it did. -/
def resSoundUptoRow : OpenClaim := { program := "ytecgmgidfjbamaa", sum := "ff0faec2c0280f45d1977a0d5fb929d4bc57f3c474ea64f7d246f91e12ead868", func := "umpirage/umpiragelaw3.ResSound", spec := "resSound", unfollowed := true, recurses := true, apart := false, narrowed := true }
def ResSoundUptoSaid : Prop := resSoundUptoRow.holds Try.pinned (OpenSpec.upto resSoundSpec)

/-- 'umpiragelaw3.SubDoes', WHERE WHAT IT READS IS OF BULK AT MOST 1048576: true; the input reads as it did. -/
def subDoesUptoRow : OpenClaim := { program := "ytecgmgidfjbamaa", sum := "ff0faec2c0280f45d1977a0d5fb929d4bc57f3c474ea64f7d246f91e12ead868", func := "umpirage/umpiragelaw3.SubDoes", spec := "subDoes", unfollowed := true, recurses := true, apart := false, narrowed := true }
def SubDoesUptoSaid : Prop := subDoesUptoRow.holds Try.pinned (OpenSpec.upto subDoesSpec)

/-- 'umpiragelaw3.SubSame', WHERE WHAT IT READS IS OF BULK AT MOST 1048576: true; the input reads as it did. -/
def subSameUptoRow : OpenClaim := { program := "ytecgmgidfjbamaa", sum := "ff0faec2c0280f45d1977a0d5fb929d4bc57f3c474ea64f7d246f91e12ead868", func := "umpirage/umpiragelaw3.SubSame", spec := "subSame", unfollowed := true, recurses := true, apart := false, narrowed := true }
def SubSameUptoSaid : Prop := subSameUptoRow.holds Try.pinned (OpenSpec.upto subSameSpec)

/-- 'umpiragelaw3.ElimDoes', WHERE WHAT IT READS IS OF BULK AT MOST 1048576: true; the input reads as it did. -/
def elimDoesUptoRow : OpenClaim := { program := "ytecgmgidfjbamaa", sum := "ff0faec2c0280f45d1977a0d5fb929d4bc57f3c474ea64f7d246f91e12ead868", func := "umpirage/umpiragelaw3.ElimDoes", spec := "elimDoes", unfollowed := true, recurses := true, apart := false, narrowed := true }
def ElimDoesUptoSaid : Prop := elimDoesUptoRow.holds Try.pinned (OpenSpec.upto elimDoesSpec)

/-- 'umpiragelaw3.ElimMends', WHERE WHAT IT READS IS OF BULK AT MOST 1048576: true; the input reads as it did. -/
def elimMendsUptoRow : OpenClaim := { program := "ytecgmgidfjbamaa", sum := "ff0faec2c0280f45d1977a0d5fb929d4bc57f3c474ea64f7d246f91e12ead868", func := "umpirage/umpiragelaw3.ElimMends", spec := "elimMends", unfollowed := true, recurses := true, apart := false, narrowed := true }
def ElimMendsUptoSaid : Prop := elimMendsUptoRow.holds Try.pinned (OpenSpec.upto elimMendsSpec)

/-- 'umpiragelaw3.ElimModels', WHERE WHAT IT READS IS OF BULK AT MOST 1048576: true; the input reads as it did. -/
def elimModelsUptoRow : OpenClaim := { program := "ytecgmgidfjbamaa", sum := "ff0faec2c0280f45d1977a0d5fb929d4bc57f3c474ea64f7d246f91e12ead868", func := "umpirage/umpiragelaw3.ElimModels", spec := "elimModels", unfollowed := true, recurses := true, apart := false, narrowed := true }
def ElimModelsUptoSaid : Prop := elimModelsUptoRow.holds Try.pinned (OpenSpec.upto elimModelsSpec)

/-- 'umpiragelaw3.OrderKeeps', WHERE WHAT IT READS IS OF BULK AT MOST 1048576: true; the input reads as it did. -/
def orderKeepsUptoRow : OpenClaim := { program := "ytecgmgidfjbamaa", sum := "ff0faec2c0280f45d1977a0d5fb929d4bc57f3c474ea64f7d246f91e12ead868", func := "umpirage/umpiragelaw3.OrderKeeps", spec := "orderKeeps", unfollowed := true, recurses := true, apart := false, narrowed := true }
def OrderKeepsUptoSaid : Prop := orderKeepsUptoRow.holds Try.pinned (OpenSpec.upto orderKeepsSpec)

end Rows
end Go.Proofs.Ytecgmgidfjbamaa
