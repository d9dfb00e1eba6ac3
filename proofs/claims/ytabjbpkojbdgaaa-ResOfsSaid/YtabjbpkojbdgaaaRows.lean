/-
  No cell of these rows narrows 'for every input' (looked for: loops, veiled, ifaces, maps, wideKeys, modest, calm, conditions, laid).
  DERIVED. THE GIVEN ROWS OF THIS SEAT. 9 by the template 'for every input the law returns true; each argument reads behind the call as it read before'; 0 by the template 'total and deterministic' (their statements: YtabjbpkojbdgaaaTotals.lean).
  GIVEN WITH THE SEED: the statements are not yours to turn. If you find one false, say at which input.
  Laid BY PROGRAM, IN A SANDBOX (cutbox-rows.mjs): the forced cells as the released guide's own fill.sh prints them over the translation 74d996aea58a5183… (all of the seat's roots in one cut). By AI agents, Wed Nov 11 2026. No macro, syntax, notation, axiom, sorry.
-/
import Derived.Test.YtabjbpkojbdgaaaChecked
import GoSem.Claim
import GoSem.ClaimJoined
import GoSem.ClaimMapViews
import Derived.JoinedTies
import Derived.KernelRfl
namespace Go.Proofs.Ytabjbpkojbdgaaa
/- THE CELL 'sum', in the pinned program and in every row, IS THE sha256 OF THE DUMP (.gsa) THAT YtabjbpkojbdgaaaProg.lean LOADS. Nothing in Lean hashes anything: it is a label: what it is worth is what the hold of that sum in a sandbox is worth. -/
noncomputable def Try.pinned : Pinned := { name := "ytabjbpkojbdgaaa", sum := "74d996aea58a51838968bcb290153cd115266b33e8680439d4cf9c1423cf443f", checked := Try.checked }
namespace Rows
def none {H : Type} : Left H := { results := [], args := [] }

/-- 'umpiragelaw3.LearnClauses': WHATEVER THE INPUT: true; the input reads as it did. -/
def learnClausesSpec : ChangeSpec := { name := "learnClauses", fn := fun _ => fun
  | [d1, d2] => { results := [.lit (.bool true)], args := [d1, d2] }
  | _ => none }
def learnClausesRow : OpenClaim := { program := "ytabjbpkojbdgaaa", sum := "74d996aea58a51838968bcb290153cd115266b33e8680439d4cf9c1423cf443f", func := "umpirage/umpiragelaw3.LearnClauses", spec := "learnClauses", unfollowed := true, recurses := true, apart := false }
def LearnClausesSaid : Prop := learnClausesRow.holds Try.pinned (OpenSpec.ofChange learnClausesSpec)

/-- ITS FALSE NEIGHBOUR: 'it returns false'. Refute it at one input. -/
def learnClausesWrong : ChangeSpec := { name := "learnClauses", fn := fun _ => fun
  | [d1, d2] => { results := [.lit (.bool false)], args := [d1, d2] }
  | _ => none }
def LearnClausesWrongFalsely : Prop := learnClausesRow.holds Try.pinned (OpenSpec.ofChange learnClausesWrong)

/-- 'umpiragelaw3.LearnShorts': WHATEVER THE INPUT: true; the input reads as it did. -/
def learnShortsSpec : ChangeSpec := { name := "learnShorts", fn := fun _ => fun
  | [d1, d2] => { results := [.lit (.bool true)], args := [d1, d2] }
  | _ => none }
def learnShortsRow : OpenClaim := { program := "ytabjbpkojbdgaaa", sum := "74d996aea58a51838968bcb290153cd115266b33e8680439d4cf9c1423cf443f", func := "umpirage/umpiragelaw3.LearnShorts", spec := "learnShorts", unfollowed := true, recurses := true, apart := false }
def LearnShortsSaid : Prop := learnShortsRow.holds Try.pinned (OpenSpec.ofChange learnShortsSpec)

/-- ITS FALSE NEIGHBOUR: 'it returns false'. Refute it at one input. -/
def learnShortsWrong : ChangeSpec := { name := "learnShorts", fn := fun _ => fun
  | [d1, d2] => { results := [.lit (.bool false)], args := [d1, d2] }
  | _ => none }
def LearnShortsWrongFalsely : Prop := learnShortsRow.holds Try.pinned (OpenSpec.ofChange learnShortsWrong)

/-- 'umpiragelaw3.LearnTrue': WHATEVER THE INPUT: true; the input reads as it did. -/
def learnTrueSpec : ChangeSpec := { name := "learnTrue", fn := fun _ => fun
  | [d1, d2, d3] => { results := [.lit (.bool true)], args := [d1, d2, d3] }
  | _ => none }
def learnTrueRow : OpenClaim := { program := "ytabjbpkojbdgaaa", sum := "74d996aea58a51838968bcb290153cd115266b33e8680439d4cf9c1423cf443f", func := "umpirage/umpiragelaw3.LearnTrue", spec := "learnTrue", unfollowed := true, recurses := true, apart := false }
def LearnTrueSaid : Prop := learnTrueRow.holds Try.pinned (OpenSpec.ofChange learnTrueSpec)

/-- ITS FALSE NEIGHBOUR: 'it returns false'. Refute it at one input. -/
def learnTrueWrong : ChangeSpec := { name := "learnTrue", fn := fun _ => fun
  | [d1, d2, d3] => { results := [.lit (.bool false)], args := [d1, d2, d3] }
  | _ => none }
def LearnTrueWrongFalsely : Prop := learnTrueRow.holds Try.pinned (OpenSpec.ofChange learnTrueWrong)

/-- 'umpiragelaw3.LearnBack': WHATEVER THE INPUT: true; the input reads as it did. -/
def learnBackSpec : ChangeSpec := { name := "learnBack", fn := fun _ => fun
  | [d1, d2] => { results := [.lit (.bool true)], args := [d1, d2] }
  | _ => none }
def learnBackRow : OpenClaim := { program := "ytabjbpkojbdgaaa", sum := "74d996aea58a51838968bcb290153cd115266b33e8680439d4cf9c1423cf443f", func := "umpirage/umpiragelaw3.LearnBack", spec := "learnBack", unfollowed := true, recurses := true, apart := false }
def LearnBackSaid : Prop := learnBackRow.holds Try.pinned (OpenSpec.ofChange learnBackSpec)

/-- ITS FALSE NEIGHBOUR: 'it returns false'. Refute it at one input. -/
def learnBackWrong : ChangeSpec := { name := "learnBack", fn := fun _ => fun
  | [d1, d2] => { results := [.lit (.bool false)], args := [d1, d2] }
  | _ => none }
def LearnBackWrongFalsely : Prop := learnBackRow.holds Try.pinned (OpenSpec.ofChange learnBackWrong)

/-- 'umpiragelaw3.TrimDoes': WHATEVER THE INPUT: true; the input reads as it did. -/
def trimDoesSpec : ChangeSpec := { name := "trimDoes", fn := fun _ => fun
  | [d1, d2] => { results := [.lit (.bool true)], args := [d1, d2] }
  | _ => none }
def trimDoesRow : OpenClaim := { program := "ytabjbpkojbdgaaa", sum := "74d996aea58a51838968bcb290153cd115266b33e8680439d4cf9c1423cf443f", func := "umpirage/umpiragelaw3.TrimDoes", spec := "trimDoes", unfollowed := true, recurses := true, apart := false }
def TrimDoesSaid : Prop := trimDoesRow.holds Try.pinned (OpenSpec.ofChange trimDoesSpec)

/-- ITS FALSE NEIGHBOUR: 'it returns false'. Refute it at one input. -/
def trimDoesWrong : ChangeSpec := { name := "trimDoes", fn := fun _ => fun
  | [d1, d2] => { results := [.lit (.bool false)], args := [d1, d2] }
  | _ => none }
def TrimDoesWrongFalsely : Prop := trimDoesRow.holds Try.pinned (OpenSpec.ofChange trimDoesWrong)

/-- 'umpiragelaw3.TrimCores': WHATEVER THE INPUT: true; the input reads as it did. -/
def trimCoresSpec : ChangeSpec := { name := "trimCores", fn := fun _ => fun
  | [d1, d2] => { results := [.lit (.bool true)], args := [d1, d2] }
  | _ => none }
def trimCoresRow : OpenClaim := { program := "ytabjbpkojbdgaaa", sum := "74d996aea58a51838968bcb290153cd115266b33e8680439d4cf9c1423cf443f", func := "umpirage/umpiragelaw3.TrimCores", spec := "trimCores", unfollowed := true, recurses := true, apart := false }
def TrimCoresSaid : Prop := trimCoresRow.holds Try.pinned (OpenSpec.ofChange trimCoresSpec)

/-- ITS FALSE NEIGHBOUR: 'it returns false'. Refute it at one input. -/
def trimCoresWrong : ChangeSpec := { name := "trimCores", fn := fun _ => fun
  | [d1, d2] => { results := [.lit (.bool false)], args := [d1, d2] }
  | _ => none }
def TrimCoresWrongFalsely : Prop := trimCoresRow.holds Try.pinned (OpenSpec.ofChange trimCoresWrong)

/-- 'umpiragelaw3.TrimTaken': WHATEVER THE INPUT: true; the input reads as it did. -/
def trimTakenSpec : ChangeSpec := { name := "trimTaken", fn := fun _ => fun
  | [d1, d2] => { results := [.lit (.bool true)], args := [d1, d2] }
  | _ => none }
def trimTakenRow : OpenClaim := { program := "ytabjbpkojbdgaaa", sum := "74d996aea58a51838968bcb290153cd115266b33e8680439d4cf9c1423cf443f", func := "umpirage/umpiragelaw3.TrimTaken", spec := "trimTaken", unfollowed := true, recurses := true, apart := false }
def TrimTakenSaid : Prop := trimTakenRow.holds Try.pinned (OpenSpec.ofChange trimTakenSpec)

/-- ITS FALSE NEIGHBOUR: 'it returns false'. Refute it at one input. -/
def trimTakenWrong : ChangeSpec := { name := "trimTaken", fn := fun _ => fun
  | [d1, d2] => { results := [.lit (.bool false)], args := [d1, d2] }
  | _ => none }
def TrimTakenWrongFalsely : Prop := trimTakenRow.holds Try.pinned (OpenSpec.ofChange trimTakenWrong)

/-- 'umpiragelaw3.ResOfs': WHATEVER THE INPUT: true; the input reads as it did. -/
def resOfsSpec : ChangeSpec := { name := "resOfs", fn := fun _ => fun
  | [d1, d2] => { results := [.lit (.bool true)], args := [d1, d2] }
  | _ => none }
def resOfsRow : OpenClaim := { program := "ytabjbpkojbdgaaa", sum := "74d996aea58a51838968bcb290153cd115266b33e8680439d4cf9c1423cf443f", func := "umpirage/umpiragelaw3.ResOfs", spec := "resOfs", unfollowed := true, recurses := true, apart := false }
def ResOfsSaid : Prop := resOfsRow.holds Try.pinned (OpenSpec.ofChange resOfsSpec)

/-- ITS FALSE NEIGHBOUR: 'it returns false'. Refute it at one input. -/
def resOfsWrong : ChangeSpec := { name := "resOfs", fn := fun _ => fun
  | [d1, d2] => { results := [.lit (.bool false)], args := [d1, d2] }
  | _ => none }
def ResOfsWrongFalsely : Prop := resOfsRow.holds Try.pinned (OpenSpec.ofChange resOfsWrong)

/-- 'umpiragelaw3.ResEnds': WHATEVER THE INPUT: true; the input reads as it did. -/
def resEndsSpec : ChangeSpec := { name := "resEnds", fn := fun _ => fun
  | [d1, d2] => { results := [.lit (.bool true)], args := [d1, d2] }
  | _ => none }
def resEndsRow : OpenClaim := { program := "ytabjbpkojbdgaaa", sum := "74d996aea58a51838968bcb290153cd115266b33e8680439d4cf9c1423cf443f", func := "umpirage/umpiragelaw3.ResEnds", spec := "resEnds", unfollowed := true, recurses := true, apart := false }
def ResEndsSaid : Prop := resEndsRow.holds Try.pinned (OpenSpec.ofChange resEndsSpec)

/-- ITS FALSE NEIGHBOUR: 'it returns false'. Refute it at one input. -/
def resEndsWrong : ChangeSpec := { name := "resEnds", fn := fun _ => fun
  | [d1, d2] => { results := [.lit (.bool false)], args := [d1, d2] }
  | _ => none }
def ResEndsWrongFalsely : Prop := resEndsRow.holds Try.pinned (OpenSpec.ofChange resEndsWrong)

/- THE SECOND FORM. 'bulk': how many values and letters a reading holds, each counted each time it is reached (what is shared counts as often as it is met; a slice's spare places count too). A statement '..UptoSaid' is the law's where the arguments, and the package variables that the reading takes, are together of bulk at most 1048576: NARROWER than '..Said'. Prove '..Said' where nothing that the law and all that it calls make is longer than what came in: it says more and counts as full. Else prove '..UptoSaid'. A law counts once. -/
mutual
def uptoBulk {H : Type} : DataW H → Nat
  | .lit (.string bytes) => bytes.length + 1
  | .lit _ => 1
  | .nil => 1
  | .ptr d => uptoBulk d + 1
  | .slice elems spare => uptoBulkAll elems + uptoBulkAll spare + 1
  | .agg parts => uptoBulkAll parts + 1
  | .iface _ d => uptoBulk d + 1
  | .map entries => uptoBulkEntries entries + 1
  | .held _ => 1
def uptoBulkAll {H : Type} : List (DataW H) → Nat
  | [] => 0
  | d :: r => uptoBulk d + uptoBulkAll r
def uptoBulkEntries {H : Type} : List (Lit × DataW H) → Nat
  | [] => 0
  | x :: r => uptoBulkEntry x + uptoBulkEntries r
def uptoBulkEntry {H : Type} : Lit × DataW H → Nat
  | (.string bytes, d) => bytes.length + uptoBulk d + 1
  | (_, d) => uptoBulk d + 1
 end
def uptoSmall : (H : Type) → List (DataW H) → Bool := fun _ ds => decide (uptoBulkAll ds ≤ 1048576)
def OpenSpec.upto (s : _root_.Go.ChangeSpec) : _root_.Go.OpenSpec := { _root_.Go.OpenSpec.ofChange s with cond := some uptoSmall }

/-- 'umpiragelaw3.LearnClauses', WHERE WHAT IT READS IS OF BULK AT MOST 1048576: true; the input reads as it did. -/
def learnClausesUptoRow : OpenClaim := { program := "ytabjbpkojbdgaaa", sum := "74d996aea58a51838968bcb290153cd115266b33e8680439d4cf9c1423cf443f", func := "umpirage/umpiragelaw3.LearnClauses", spec := "learnClauses", unfollowed := true, recurses := true, apart := false, narrowed := true }
def LearnClausesUptoSaid : Prop := learnClausesUptoRow.holds Try.pinned (OpenSpec.upto learnClausesSpec)

/-- 'umpiragelaw3.LearnShorts', WHERE WHAT IT READS IS OF BULK AT MOST 1048576: true; the input reads as it did. -/
def learnShortsUptoRow : OpenClaim := { program := "ytabjbpkojbdgaaa", sum := "74d996aea58a51838968bcb290153cd115266b33e8680439d4cf9c1423cf443f", func := "umpirage/umpiragelaw3.LearnShorts", spec := "learnShorts", unfollowed := true, recurses := true, apart := false, narrowed := true }
def LearnShortsUptoSaid : Prop := learnShortsUptoRow.holds Try.pinned (OpenSpec.upto learnShortsSpec)

/-- 'umpiragelaw3.LearnTrue', WHERE WHAT IT READS IS OF BULK AT MOST 1048576: true; the input reads as it did. -/
def learnTrueUptoRow : OpenClaim := { program := "ytabjbpkojbdgaaa", sum := "74d996aea58a51838968bcb290153cd115266b33e8680439d4cf9c1423cf443f", func := "umpirage/umpiragelaw3.LearnTrue", spec := "learnTrue", unfollowed := true, recurses := true, apart := false, narrowed := true }
def LearnTrueUptoSaid : Prop := learnTrueUptoRow.holds Try.pinned (OpenSpec.upto learnTrueSpec)

/-- 'umpiragelaw3.LearnBack', WHERE WHAT IT READS IS OF BULK AT MOST 1048576: true; the input reads as it did. -/
def learnBackUptoRow : OpenClaim := { program := "ytabjbpkojbdgaaa", sum := "74d996aea58a51838968bcb290153cd115266b33e8680439d4cf9c1423cf443f", func := "umpirage/umpiragelaw3.LearnBack", spec := "learnBack", unfollowed := true, recurses := true, apart := false, narrowed := true }
def LearnBackUptoSaid : Prop := learnBackUptoRow.holds Try.pinned (OpenSpec.upto learnBackSpec)

/-- 'umpiragelaw3.TrimDoes', WHERE WHAT IT READS IS OF BULK AT MOST 1048576: true; the input reads as it did. -/
def trimDoesUptoRow : OpenClaim := { program := "ytabjbpkojbdgaaa", sum := "74d996aea58a51838968bcb290153cd115266b33e8680439d4cf9c1423cf443f", func := "umpirage/umpiragelaw3.TrimDoes", spec := "trimDoes", unfollowed := true, recurses := true, apart := false, narrowed := true }
def TrimDoesUptoSaid : Prop := trimDoesUptoRow.holds Try.pinned (OpenSpec.upto trimDoesSpec)

/-- 'umpiragelaw3.TrimCores', WHERE WHAT IT READS IS OF BULK AT MOST 1048576: true; the input reads as it did. -/
def trimCoresUptoRow : OpenClaim := { program := "ytabjbpkojbdgaaa", sum := "74d996aea58a51838968bcb290153cd115266b33e8680439d4cf9c1423cf443f", func := "umpirage/umpiragelaw3.TrimCores", spec := "trimCores", unfollowed := true, recurses := true, apart := false, narrowed := true }
def TrimCoresUptoSaid : Prop := trimCoresUptoRow.holds Try.pinned (OpenSpec.upto trimCoresSpec)

/-- 'umpiragelaw3.TrimTaken', WHERE WHAT IT READS IS OF BULK AT MOST 1048576: true; the input reads as it did. -/
def trimTakenUptoRow : OpenClaim := { program := "ytabjbpkojbdgaaa", sum := "74d996aea58a51838968bcb290153cd115266b33e8680439d4cf9c1423cf443f", func := "umpirage/umpiragelaw3.TrimTaken", spec := "trimTaken", unfollowed := true, recurses := true, apart := false, narrowed := true }
def TrimTakenUptoSaid : Prop := trimTakenUptoRow.holds Try.pinned (OpenSpec.upto trimTakenSpec)

/-- 'umpiragelaw3.ResOfs', WHERE WHAT IT READS IS OF BULK AT MOST 1048576: true; the input reads as it did. -/
def resOfsUptoRow : OpenClaim := { program := "ytabjbpkojbdgaaa", sum := "74d996aea58a51838968bcb290153cd115266b33e8680439d4cf9c1423cf443f", func := "umpirage/umpiragelaw3.ResOfs", spec := "resOfs", unfollowed := true, recurses := true, apart := false, narrowed := true }
def ResOfsUptoSaid : Prop := resOfsUptoRow.holds Try.pinned (OpenSpec.upto resOfsSpec)

/-- 'umpiragelaw3.ResEnds', WHERE WHAT IT READS IS OF BULK AT MOST 1048576: true; the input reads as it did. -/
def resEndsUptoRow : OpenClaim := { program := "ytabjbpkojbdgaaa", sum := "74d996aea58a51838968bcb290153cd115266b33e8680439d4cf9c1423cf443f", func := "umpirage/umpiragelaw3.ResEnds", spec := "resEnds", unfollowed := true, recurses := true, apart := false, narrowed := true }
def ResEndsUptoSaid : Prop := resEndsUptoRow.holds Try.pinned (OpenSpec.upto resEndsSpec)

end Rows
end Go.Proofs.Ytabjbpkojbdgaaa
