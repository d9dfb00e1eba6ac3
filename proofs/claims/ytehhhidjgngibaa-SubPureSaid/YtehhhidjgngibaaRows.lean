/-
  No cell of these rows narrows 'for every input' (looked for: loops, veiled, ifaces, maps, wideKeys, modest, calm, conditions, laid).
  DERIVED. THE GIVEN ROWS OF THIS SEAT. 12 by the template 'for every input the law returns true; each argument reads behind the call as it read before'; 0 by the template 'total and deterministic' (their statements: YtehhhidjgngibaaTotals.lean).
  GIVEN WITH THE SEED: the statements are not yours to turn. If you find one false, say at which input.
  Laid BY PROGRAM, IN A SANDBOX (cutbox-rows.mjs): the forced cells as the released guide's own fill.sh prints them over the translation 365c5922e53fcb4a… (all of the seat's roots in one cut). By AI agents, Wed Nov 11 2026. No macro, syntax, notation, axiom, sorry.
-/
import Derived.Test.YtehhhidjgngibaaChecked
import GoSem.Claim
import GoSem.ClaimJoined
import GoSem.ClaimMapViews
import Derived.JoinedTies
import Derived.KernelRfl
namespace Go.Proofs.Ytehhhidjgngibaa
/- THE CELL 'sum', in the pinned program and in every row, IS THE sha256 OF THE DUMP (.gsa) THAT YtehhhidjgngibaaProg.lean LOADS. Nothing in Lean hashes anything: it is a label: what it is worth is what the hold of that sum in a sandbox is worth. -/
noncomputable def Try.pinned : Pinned := { name := "ytehhhidjgngibaa", sum := "365c5922e53fcb4ac93edf153c628ed716b9bc366be71dd683195e668eb742cb", checked := Try.checked }
namespace Rows
def none {H : Type} : Left H := { results := [], args := [] }

/-- 'umpiragelaw3.OrderGlues': WHATEVER THE INPUT: true; the input reads as it did. -/
def orderGluesSpec : ChangeSpec := { name := "orderGlues", fn := fun _ => fun
  | [d] => { results := [.lit (.bool true)], args := [d] }
  | _ => none }
def orderGluesRow : OpenClaim := { program := "ytehhhidjgngibaa", sum := "365c5922e53fcb4ac93edf153c628ed716b9bc366be71dd683195e668eb742cb", func := "umpirage/umpiragelaw3.OrderGlues", spec := "orderGlues", apart := false }
def OrderGluesSaid : Prop := orderGluesRow.holds Try.pinned (OpenSpec.ofChange orderGluesSpec)

/-- ITS FALSE NEIGHBOUR: 'it returns false'. Refute it at one input. -/
def orderGluesWrong : ChangeSpec := { name := "orderGlues", fn := fun _ => fun
  | [d] => { results := [.lit (.bool false)], args := [d] }
  | _ => none }
def OrderGluesWrongFalsely : Prop := orderGluesRow.holds Try.pinned (OpenSpec.ofChange orderGluesWrong)

/-- 'umpiragelaw3.OrderLubys': WHATEVER THE INPUT: true; the input reads as it did. -/
def orderLubysSpec : ChangeSpec := { name := "orderLubys", fn := fun _ => fun
  | [d] => { results := [.lit (.bool true)], args := [d] }
  | _ => none }
def orderLubysRow : OpenClaim := { program := "ytehhhidjgngibaa", sum := "365c5922e53fcb4ac93edf153c628ed716b9bc366be71dd683195e668eb742cb", func := "umpirage/umpiragelaw3.OrderLubys", spec := "orderLubys", recurses := true, apart := false }
def OrderLubysSaid : Prop := orderLubysRow.holds Try.pinned (OpenSpec.ofChange orderLubysSpec)

/-- ITS FALSE NEIGHBOUR: 'it returns false'. Refute it at one input. -/
def orderLubysWrong : ChangeSpec := { name := "orderLubys", fn := fun _ => fun
  | [d] => { results := [.lit (.bool false)], args := [d] }
  | _ => none }
def OrderLubysWrongFalsely : Prop := orderLubysRow.holds Try.pinned (OpenSpec.ofChange orderLubysWrong)

/-- 'umpiragelaw3.OrderLuby': WHATEVER THE INPUT: true; the input reads as it did. -/
def orderLubySpec : ChangeSpec := { name := "orderLuby", fn := fun _ => fun
  | [d1, d2] => { results := [.lit (.bool true)], args := [d1, d2] }
  | _ => none }
def orderLubyRow : OpenClaim := { program := "ytehhhidjgngibaa", sum := "365c5922e53fcb4ac93edf153c628ed716b9bc366be71dd683195e668eb742cb", func := "umpirage/umpiragelaw3.OrderLuby", spec := "orderLuby", apart := false }
def OrderLubySaid : Prop := orderLubyRow.holds Try.pinned (OpenSpec.ofChange orderLubySpec)

/-- ITS FALSE NEIGHBOUR: 'it returns false'. Refute it at one input. -/
def orderLubyWrong : ChangeSpec := { name := "orderLuby", fn := fun _ => fun
  | [d1, d2] => { results := [.lit (.bool false)], args := [d1, d2] }
  | _ => none }
def OrderLubyWrongFalsely : Prop := orderLubyRow.holds Try.pinned (OpenSpec.ofChange orderLubyWrong)

/-- 'umpiragelaw3.OrderNexts': WHATEVER THE INPUT: true; the input reads as it did. -/
def orderNextsSpec : ChangeSpec := { name := "orderNexts", fn := fun _ => fun
  | [d1, d2] => { results := [.lit (.bool true)], args := [d1, d2] }
  | _ => none }
def orderNextsRow : OpenClaim := { program := "ytehhhidjgngibaa", sum := "365c5922e53fcb4ac93edf153c628ed716b9bc366be71dd683195e668eb742cb", func := "umpirage/umpiragelaw3.OrderNexts", spec := "orderNexts", apart := false }
def OrderNextsSaid : Prop := orderNextsRow.holds Try.pinned (OpenSpec.ofChange orderNextsSpec)

/-- ITS FALSE NEIGHBOUR: 'it returns false'. Refute it at one input. -/
def orderNextsWrong : ChangeSpec := { name := "orderNexts", fn := fun _ => fun
  | [d1, d2] => { results := [.lit (.bool false)], args := [d1, d2] }
  | _ => none }
def OrderNextsWrongFalsely : Prop := orderNextsRow.holds Try.pinned (OpenSpec.ofChange orderNextsWrong)

/-- 'umpiragelaw3.CnfChecks': WHATEVER THE INPUT: true; the input reads as it did. -/
def cnfChecksSpec : ChangeSpec := { name := "cnfChecks", fn := fun _ => fun
  | [d] => { results := [.lit (.bool true)], args := [d] }
  | _ => none }
def cnfChecksRow : OpenClaim := { program := "ytehhhidjgngibaa", sum := "365c5922e53fcb4ac93edf153c628ed716b9bc366be71dd683195e668eb742cb", func := "umpirage/umpiragelaw3.CnfChecks", spec := "cnfChecks", unfollowed := true, recurses := true, apart := false }
def CnfChecksSaid : Prop := cnfChecksRow.holds Try.pinned (OpenSpec.ofChange cnfChecksSpec)

/-- ITS FALSE NEIGHBOUR: 'it returns false'. Refute it at one input. -/
def cnfChecksWrong : ChangeSpec := { name := "cnfChecks", fn := fun _ => fun
  | [d] => { results := [.lit (.bool false)], args := [d] }
  | _ => none }
def CnfChecksWrongFalsely : Prop := cnfChecksRow.holds Try.pinned (OpenSpec.ofChange cnfChecksWrong)

/-- 'umpiragelaw3.SubOvers': WHATEVER THE INPUT: true; the input reads as it did. -/
def subOversSpec : ChangeSpec := { name := "subOvers", fn := fun _ => fun
  | [d1, d2] => { results := [.lit (.bool true)], args := [d1, d2] }
  | _ => none }
def subOversRow : OpenClaim := { program := "ytehhhidjgngibaa", sum := "365c5922e53fcb4ac93edf153c628ed716b9bc366be71dd683195e668eb742cb", func := "umpirage/umpiragelaw3.SubOvers", spec := "subOvers", unfollowed := true, recurses := true, apart := false }
def SubOversSaid : Prop := subOversRow.holds Try.pinned (OpenSpec.ofChange subOversSpec)

/-- ITS FALSE NEIGHBOUR: 'it returns false'. Refute it at one input. -/
def subOversWrong : ChangeSpec := { name := "subOvers", fn := fun _ => fun
  | [d1, d2] => { results := [.lit (.bool false)], args := [d1, d2] }
  | _ => none }
def SubOversWrongFalsely : Prop := subOversRow.holds Try.pinned (OpenSpec.ofChange subOversWrong)

/-- 'umpiragelaw3.CnfHolds': WHATEVER THE INPUT: true; the input reads as it did. -/
def cnfHoldsSpec : ChangeSpec := { name := "cnfHolds", fn := fun _ => fun
  | [d1, d2] => { results := [.lit (.bool true)], args := [d1, d2] }
  | _ => none }
def cnfHoldsRow : OpenClaim := { program := "ytehhhidjgngibaa", sum := "365c5922e53fcb4ac93edf153c628ed716b9bc366be71dd683195e668eb742cb", func := "umpirage/umpiragelaw3.CnfHolds", spec := "cnfHolds", unfollowed := true, recurses := true, apart := false }
def CnfHoldsSaid : Prop := cnfHoldsRow.holds Try.pinned (OpenSpec.ofChange cnfHoldsSpec)

/-- ITS FALSE NEIGHBOUR: 'it returns false'. Refute it at one input. -/
def cnfHoldsWrong : ChangeSpec := { name := "cnfHolds", fn := fun _ => fun
  | [d1, d2] => { results := [.lit (.bool false)], args := [d1, d2] }
  | _ => none }
def CnfHoldsWrongFalsely : Prop := cnfHoldsRow.holds Try.pinned (OpenSpec.ofChange cnfHoldsWrong)

/-- 'umpiragelaw3.OrderBumps': WHATEVER THE INPUT: true; the input reads as it did. -/
def orderBumpsSpec : ChangeSpec := { name := "orderBumps", fn := fun _ => fun
  | [d1, d2, d3] => { results := [.lit (.bool true)], args := [d1, d2, d3] }
  | _ => none }
def orderBumpsRow : OpenClaim := { program := "ytehhhidjgngibaa", sum := "365c5922e53fcb4ac93edf153c628ed716b9bc366be71dd683195e668eb742cb", func := "umpirage/umpiragelaw3.OrderBumps", spec := "orderBumps", unfollowed := true, recurses := true, apart := false }
def OrderBumpsSaid : Prop := orderBumpsRow.holds Try.pinned (OpenSpec.ofChange orderBumpsSpec)

/-- ITS FALSE NEIGHBOUR: 'it returns false'. Refute it at one input. -/
def orderBumpsWrong : ChangeSpec := { name := "orderBumps", fn := fun _ => fun
  | [d1, d2, d3] => { results := [.lit (.bool false)], args := [d1, d2, d3] }
  | _ => none }
def OrderBumpsWrongFalsely : Prop := orderBumpsRow.holds Try.pinned (OpenSpec.ofChange orderBumpsWrong)

/-- 'umpiragelaw3.OrderBump': WHATEVER THE INPUT: true; the input reads as it did. -/
def orderBumpSpec : ChangeSpec := { name := "orderBump", fn := fun _ => fun
  | [d1, d2] => { results := [.lit (.bool true)], args := [d1, d2] }
  | _ => none }
def orderBumpRow : OpenClaim := { program := "ytehhhidjgngibaa", sum := "365c5922e53fcb4ac93edf153c628ed716b9bc366be71dd683195e668eb742cb", func := "umpirage/umpiragelaw3.OrderBump", spec := "orderBump", unfollowed := true, recurses := true, apart := false }
def OrderBumpSaid : Prop := orderBumpRow.holds Try.pinned (OpenSpec.ofChange orderBumpSpec)

/-- ITS FALSE NEIGHBOUR: 'it returns false'. Refute it at one input. -/
def orderBumpWrong : ChangeSpec := { name := "orderBump", fn := fun _ => fun
  | [d1, d2] => { results := [.lit (.bool false)], args := [d1, d2] }
  | _ => none }
def OrderBumpWrongFalsely : Prop := orderBumpRow.holds Try.pinned (OpenSpec.ofChange orderBumpWrong)

/-- 'umpiragelaw3.CnfGivens': WHATEVER THE INPUT: true; the input reads as it did. -/
def cnfGivensSpec : ChangeSpec := { name := "cnfGivens", fn := fun _ => fun
  | [d1, d2] => { results := [.lit (.bool true)], args := [d1, d2] }
  | _ => none }
def cnfGivensRow : OpenClaim := { program := "ytehhhidjgngibaa", sum := "365c5922e53fcb4ac93edf153c628ed716b9bc366be71dd683195e668eb742cb", func := "umpirage/umpiragelaw3.CnfGivens", spec := "cnfGivens", unfollowed := true, recurses := true, apart := false }
def CnfGivensSaid : Prop := cnfGivensRow.holds Try.pinned (OpenSpec.ofChange cnfGivensSpec)

/-- ITS FALSE NEIGHBOUR: 'it returns false'. Refute it at one input. -/
def cnfGivensWrong : ChangeSpec := { name := "cnfGivens", fn := fun _ => fun
  | [d1, d2] => { results := [.lit (.bool false)], args := [d1, d2] }
  | _ => none }
def CnfGivensWrongFalsely : Prop := cnfGivensRow.holds Try.pinned (OpenSpec.ofChange cnfGivensWrong)

/-- 'umpiragelaw3.SubPures': WHATEVER THE INPUT: true; the input reads as it did. -/
def subPuresSpec : ChangeSpec := { name := "subPures", fn := fun _ => fun
  | [d] => { results := [.lit (.bool true)], args := [d] }
  | _ => none }
def subPuresRow : OpenClaim := { program := "ytehhhidjgngibaa", sum := "365c5922e53fcb4ac93edf153c628ed716b9bc366be71dd683195e668eb742cb", func := "umpirage/umpiragelaw3.SubPures", spec := "subPures", unfollowed := true, recurses := true, apart := false }
def SubPuresSaid : Prop := subPuresRow.holds Try.pinned (OpenSpec.ofChange subPuresSpec)

/-- ITS FALSE NEIGHBOUR: 'it returns false'. Refute it at one input. -/
def subPuresWrong : ChangeSpec := { name := "subPures", fn := fun _ => fun
  | [d] => { results := [.lit (.bool false)], args := [d] }
  | _ => none }
def SubPuresWrongFalsely : Prop := subPuresRow.holds Try.pinned (OpenSpec.ofChange subPuresWrong)

/-- 'umpiragelaw3.SubPure': WHATEVER THE INPUT: true; the input reads as it did. -/
def subPureSpec : ChangeSpec := { name := "subPure", fn := fun _ => fun
  | [d1, d2] => { results := [.lit (.bool true)], args := [d1, d2] }
  | _ => none }
def subPureRow : OpenClaim := { program := "ytehhhidjgngibaa", sum := "365c5922e53fcb4ac93edf153c628ed716b9bc366be71dd683195e668eb742cb", func := "umpirage/umpiragelaw3.SubPure", spec := "subPure", unfollowed := true, recurses := true, apart := false }
def SubPureSaid : Prop := subPureRow.holds Try.pinned (OpenSpec.ofChange subPureSpec)

/-- ITS FALSE NEIGHBOUR: 'it returns false'. Refute it at one input. -/
def subPureWrong : ChangeSpec := { name := "subPure", fn := fun _ => fun
  | [d1, d2] => { results := [.lit (.bool false)], args := [d1, d2] }
  | _ => none }
def SubPureWrongFalsely : Prop := subPureRow.holds Try.pinned (OpenSpec.ofChange subPureWrong)

/- THE SECOND FORM. 'bulk': how many values and letters a reading holds, each counted each time it is reached (what is shared counts as often as it is met; a slice's spare places count too). A statement '..UptoSaid' is the law's where the arguments, and the package variables that the reading takes, are together of bulk at most 1048576: NARROWER than '..Said'. Prove '..Said' where nothing that the law and all that it calls make is longer than what came in: it says more and counts as full. Else prove '..UptoSaid'. A law counts once. -/
mutual
def uptoBulk {H : Type} : DataW H → Nat
  | .lit (.string bytes) => bytes.length + 1
  | .lit _ => 1
  | .nil => 1
  | .ptr d => uptoBulk d + 1
  | .slice elems spare => uptoBulkAll elems + uptoBulkAll spare + 1
  | .agg parts => uptoBulkAll parts + 1
  | .iface _ d => uptoBulk d + 1
  | .map entries => uptoBulkEntries entries + 1
  | .held _ => 1
def uptoBulkAll {H : Type} : List (DataW H) → Nat
  | [] => 0
  | d :: r => uptoBulk d + uptoBulkAll r
def uptoBulkEntries {H : Type} : List (Lit × DataW H) → Nat
  | [] => 0
  | x :: r => uptoBulkEntry x + uptoBulkEntries r
def uptoBulkEntry {H : Type} : Lit × DataW H → Nat
  | (.string bytes, d) => bytes.length + uptoBulk d + 1
  | (_, d) => uptoBulk d + 1
 end
def uptoSmall : (H : Type) → List (DataW H) → Bool := fun _ ds => decide (uptoBulkAll ds ≤ 1048576)
def OpenSpec.upto (s : _root_.Go.ChangeSpec) : _root_.Go.OpenSpec := { _root_.Go.OpenSpec.ofChange s with cond := some uptoSmall }

/-- 'umpiragelaw3.OrderGlues', WHERE WHAT IT READS IS OF BULK AT MOST 1048576: true; the input reads as it did. -/
def orderGluesUptoRow : OpenClaim := { program := "ytehhhidjgngibaa", sum := "365c5922e53fcb4ac93edf153c628ed716b9bc366be71dd683195e668eb742cb", func := "umpirage/umpiragelaw3.OrderGlues", spec := "orderGlues", apart := false, narrowed := true }
def OrderGluesUptoSaid : Prop := orderGluesUptoRow.holds Try.pinned (OpenSpec.upto orderGluesSpec)

/-- 'umpiragelaw3.OrderLubys', WHERE WHAT IT READS IS OF BULK AT MOST 1048576: true; the input reads as it did. -/
def orderLubysUptoRow : OpenClaim := { program := "ytehhhidjgngibaa", sum := "365c5922e53fcb4ac93edf153c628ed716b9bc366be71dd683195e668eb742cb", func := "umpirage/umpiragelaw3.OrderLubys", spec := "orderLubys", recurses := true, apart := false, narrowed := true }
def OrderLubysUptoSaid : Prop := orderLubysUptoRow.holds Try.pinned (OpenSpec.upto orderLubysSpec)

/-- 'umpiragelaw3.OrderLuby', WHERE WHAT IT READS IS OF BULK AT MOST 1048576: true; the input reads as it did. -/
def orderLubyUptoRow : OpenClaim := { program := "ytehhhidjgngibaa", sum := "365c5922e53fcb4ac93edf153c628ed716b9bc366be71dd683195e668eb742cb", func := "umpirage/umpiragelaw3.OrderLuby", spec := "orderLuby", apart := false, narrowed := true }
def OrderLubyUptoSaid : Prop := orderLubyUptoRow.holds Try.pinned (OpenSpec.upto orderLubySpec)

/-- 'umpiragelaw3.OrderNexts', WHERE WHAT IT READS IS OF BULK AT MOST 1048576: true; the input reads as it did. -/
def orderNextsUptoRow : OpenClaim := { program := "ytehhhidjgngibaa", sum := "365c5922e53fcb4ac93edf153c628ed716b9bc366be71dd683195e668eb742cb", func := "umpirage/umpiragelaw3.OrderNexts", spec := "orderNexts", apart := false, narrowed := true }
def OrderNextsUptoSaid : Prop := orderNextsUptoRow.holds Try.pinned (OpenSpec.upto orderNextsSpec)

/-- 'umpiragelaw3.CnfChecks', WHERE WHAT IT READS IS OF BULK AT MOST 1048576: true; the input reads as it did. -/
def cnfChecksUptoRow : OpenClaim := { program := "ytehhhidjgngibaa", sum := "365c5922e53fcb4ac93edf153c628ed716b9bc366be71dd683195e668eb742cb", func := "umpirage/umpiragelaw3.CnfChecks", spec := "cnfChecks", unfollowed := true, recurses := true, apart := false, narrowed := true }
def CnfChecksUptoSaid : Prop := cnfChecksUptoRow.holds Try.pinned (OpenSpec.upto cnfChecksSpec)

/-- 'umpiragelaw3.SubOvers', WHERE WHAT IT READS IS OF BULK AT MOST 1048576: true; the input reads as it did. -/
def subOversUptoRow : OpenClaim := { program := "ytehhhidjgngibaa", sum := "365c5922e53fcb4ac93edf153c628ed716b9bc366be71dd683195e668eb742cb", func := "umpirage/umpiragelaw3.SubOvers", spec := "subOvers", unfollowed := true, recurses := true, apart := false, narrowed := true }
def SubOversUptoSaid : Prop := subOversUptoRow.holds Try.pinned (OpenSpec.upto subOversSpec)

/-- 'umpiragelaw3.CnfHolds', WHERE WHAT IT READS IS OF BULK AT MOST 1048576: true; the input reads as it did. -/
def cnfHoldsUptoRow : OpenClaim := { program := "ytehhhidjgngibaa", sum := "365c5922e53fcb4ac93edf153c628ed716b9bc366be71dd683195e668eb742cb", func := "umpirage/umpiragelaw3.CnfHolds", spec := "cnfHolds", unfollowed := true, recurses := true, apart := false, narrowed := true }
def CnfHoldsUptoSaid : Prop := cnfHoldsUptoRow.holds Try.pinned (OpenSpec.upto cnfHoldsSpec)

/-- 'umpiragelaw3.OrderBumps', WHERE WHAT IT READS IS OF BULK AT MOST 1048576: true; the input reads as it did. -/
def orderBumpsUptoRow : OpenClaim := { program := "ytehhhidjgngibaa", sum := "365c5922e53fcb4ac93edf153c628ed716b9bc366be71dd683195e668eb742cb", func := "umpirage/umpiragelaw3.OrderBumps", spec := "orderBumps", unfollowed := true, recurses := true, apart := false, narrowed := true }
def OrderBumpsUptoSaid : Prop := orderBumpsUptoRow.holds Try.pinned (OpenSpec.upto orderBumpsSpec)

/-- 'umpiragelaw3.OrderBump', WHERE WHAT IT READS IS OF BULK AT MOST 1048576: true; the input reads as it did. -/
def orderBumpUptoRow : OpenClaim := { program := "ytehhhidjgngibaa", sum := "365c5922e53fcb4ac93edf153c628ed716b9bc366be71dd683195e668eb742cb", func := "umpirage/umpiragelaw3.OrderBump", spec := "orderBump", unfollowed := true, recurses := true, apart := false, narrowed := true }
def OrderBumpUptoSaid : Prop := orderBumpUptoRow.holds Try.pinned (OpenSpec.upto orderBumpSpec)

/-- 'umpiragelaw3.CnfGivens', WHERE WHAT IT READS IS OF BULK AT MOST 1048576: true; the input reads as it did. -/
def cnfGivensUptoRow : OpenClaim := { program := "ytehhhidjgngibaa", sum := "365c5922e53fcb4ac93edf153c628ed716b9bc366be71dd683195e668eb742cb", func := "umpirage/umpiragelaw3.CnfGivens", spec := "cnfGivens", unfollowed := true, recurses := true, apart := false, narrowed := true }
def CnfGivensUptoSaid : Prop := cnfGivensUptoRow.holds Try.pinned (OpenSpec.upto cnfGivensSpec)

/-- 'umpiragelaw3.SubPures', WHERE WHAT IT READS IS OF BULK AT MOST 1048576: true; the input reads as it did. -/
def subPuresUptoRow : OpenClaim := { program := "ytehhhidjgngibaa", sum := "365c5922e53fcb4ac93edf153c628ed716b9bc366be71dd683195e668eb742cb", func := "umpirage/umpiragelaw3.SubPures", spec := "subPures", unfollowed := true, recurses := true, apart := false, narrowed := true }
def SubPuresUptoSaid : Prop := subPuresUptoRow.holds Try.pinned (OpenSpec.upto subPuresSpec)

/-- 'umpiragelaw3.SubPure', WHERE WHAT IT READS IS OF BULK AT MOST 1048576: true; the input reads as it did. -/
def subPureUptoRow : OpenClaim := { program := "ytehhhidjgngibaa", sum := "365c5922e53fcb4ac93edf153c628ed716b9bc366be71dd683195e668eb742cb", func := "umpirage/umpiragelaw3.SubPure", spec := "subPure", unfollowed := true, recurses := true, apart := false, narrowed := true }
def SubPureUptoSaid : Prop := subPureUptoRow.holds Try.pinned (OpenSpec.upto subPureSpec)

end Rows
end Go.Proofs.Ytehhhidjgngibaa
