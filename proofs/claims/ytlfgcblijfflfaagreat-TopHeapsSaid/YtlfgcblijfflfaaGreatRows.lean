/-
  No cell of these rows narrows 'for every input' (looked for: loops, veiled, ifaces, maps, wideKeys, modest, calm, conditions, laid).
  DERIVED. THE GIVEN ROWS OF THIS SEAT. 3 by the template 'for every input the law returns true; each argument reads behind the call as it read before'; 0 by the template 'total and deterministic' (their statements: YtlfgcblijfflfaaGreatTotals.lean).
  GIVEN WITH THE SEED: the statements are not yours to turn. If you find one false, say at which input.
  Laid BY PROGRAM, IN A SANDBOX (cutbox-rows.mjs): the forced cells as the released guide's own fill.sh prints them over the translation 087f229eded8fb8d… (all of the seat's roots in one cut). By AI agents, Wed Nov 11 2026. No macro, syntax, notation, axiom, sorry.
-/
import Derived.Test.YtlfgcblijfflfaaGreatChecked
import GoSem.Claim
import GoSem.ClaimJoined
import GoSem.ClaimMapViews
import Derived.JoinedTies
import Derived.KernelRfl
namespace Go.Proofs.YtlfgcblijfflfaaGreat
/- THE CELL 'sum', in the pinned program and in every row, IS THE sha256 OF THE DUMP (.gsa) THAT YtlfgcblijfflfaaGreatProg.lean LOADS. Nothing in Lean hashes anything: it is a label: what it is worth is what the hold of that sum in a sandbox is worth. -/
noncomputable def Tryz.pinned : Pinned := { name := "ytlfgcblijfflfaagreat", sum := "087f229eded8fb8d728c6d3c68a640c05a10dff617c7cfd36f4128fb1ffcafd1", checked := Tryz.checked }
namespace Rows
def none {H : Type} : Left H := { results := [], args := [] }

/-- 'umpiragetop.TopSub': WHATEVER THE INPUT: true; the input reads as it did. -/
def topSubSpec : ChangeSpec := { name := "topSub", fn := fun _ => fun
  | [d] => { results := [.lit (.bool true)], args := [d] }
  | _ => none }
def topSubRow : OpenClaim := { program := "ytlfgcblijfflfaagreat", sum := "087f229eded8fb8d728c6d3c68a640c05a10dff617c7cfd36f4128fb1ffcafd1", func := "umpirage/umpiragetop.TopSub", spec := "topSub", unfollowed := true, recurses := true, plainKeys := false, apart := false }
def TopSubSaid : Prop := topSubRow.holds Tryz.pinned (OpenSpec.ofChange topSubSpec)

/-- ITS FALSE NEIGHBOUR: 'it returns false'. Refute it at one input. -/
def topSubWrong : ChangeSpec := { name := "topSub", fn := fun _ => fun
  | [d] => { results := [.lit (.bool false)], args := [d] }
  | _ => none }
def TopSubWrongFalsely : Prop := topSubRow.holds Tryz.pinned (OpenSpec.ofChange topSubWrong)

/-- 'umpiragetop.TopParities': WHATEVER THE INPUT: true; the input reads as it did. -/
def topParitiesSpec : ChangeSpec := { name := "topParities", fn := fun _ => fun
  | [d1, d2] => { results := [.lit (.bool true)], args := [d1, d2] }
  | _ => none }
def topParitiesRow : OpenClaim := { program := "ytlfgcblijfflfaagreat", sum := "087f229eded8fb8d728c6d3c68a640c05a10dff617c7cfd36f4128fb1ffcafd1", func := "umpirage/umpiragetop.TopParities", spec := "topParities", unfollowed := true, recurses := true, plainKeys := false, apart := false }
def TopParitiesSaid : Prop := topParitiesRow.holds Tryz.pinned (OpenSpec.ofChange topParitiesSpec)

/-- ITS FALSE NEIGHBOUR: 'it returns false'. Refute it at one input. -/
def topParitiesWrong : ChangeSpec := { name := "topParities", fn := fun _ => fun
  | [d1, d2] => { results := [.lit (.bool false)], args := [d1, d2] }
  | _ => none }
def TopParitiesWrongFalsely : Prop := topParitiesRow.holds Tryz.pinned (OpenSpec.ofChange topParitiesWrong)

/-- 'umpiragetop.TopHeaps': WHATEVER THE INPUT: true; the input reads as it did. -/
def topHeapsSpec : ChangeSpec := { name := "topHeaps", fn := fun _ => fun
  | [d1, d2, d3, d4] => { results := [.lit (.bool true)], args := [d1, d2, d3, d4] }
  | _ => none }
def topHeapsRow : OpenClaim := { program := "ytlfgcblijfflfaagreat", sum := "087f229eded8fb8d728c6d3c68a640c05a10dff617c7cfd36f4128fb1ffcafd1", func := "umpirage/umpiragetop.TopHeaps", spec := "topHeaps", unfollowed := true, recurses := true, plainKeys := false, apart := false }
def TopHeapsSaid : Prop := topHeapsRow.holds Tryz.pinned (OpenSpec.ofChange topHeapsSpec)

/-- ITS FALSE NEIGHBOUR: 'it returns false'. Refute it at one input. -/
def topHeapsWrong : ChangeSpec := { name := "topHeaps", fn := fun _ => fun
  | [d1, d2, d3, d4] => { results := [.lit (.bool false)], args := [d1, d2, d3, d4] }
  | _ => none }
def TopHeapsWrongFalsely : Prop := topHeapsRow.holds Tryz.pinned (OpenSpec.ofChange topHeapsWrong)

/- THE SECOND FORM. 'bulk': how many values and letters a reading holds, each counted each time it is reached (what is shared counts as often as it is met; a slice's spare places count too). A statement '..UptoSaid' is the law's where the arguments, and the package variables that the reading takes, are together of bulk at most 1048576: NARROWER than '..Said'. Prove '..Said' where nothing that the law and all that it calls make is longer than what came in: it says more and counts as full. Else prove '..UptoSaid'. A law counts once. -/
mutual
def uptoBulk {H : Type} : DataW H → Nat
  | .lit (.string bytes) => bytes.length + 1
  | .lit _ => 1
  | .nil => 1
  | .ptr d => uptoBulk d + 1
  | .slice elems spare => uptoBulkAll elems + uptoBulkAll spare + 1
  | .agg parts => uptoBulkAll parts + 1
  | .iface _ d => uptoBulk d + 1
  | .map entries => uptoBulkEntries entries + 1
  | .held _ => 1
def uptoBulkAll {H : Type} : List (DataW H) → Nat
  | [] => 0
  | d :: r => uptoBulk d + uptoBulkAll r
def uptoBulkEntries {H : Type} : List (Lit × DataW H) → Nat
  | [] => 0
  | x :: r => uptoBulkEntry x + uptoBulkEntries r
def uptoBulkEntry {H : Type} : Lit × DataW H → Nat
  | (.string bytes, d) => bytes.length + uptoBulk d + 1
  | (_, d) => uptoBulk d + 1
 end
def uptoSmall : (H : Type) → List (DataW H) → Bool := fun _ ds => decide (uptoBulkAll ds ≤ 1048576)
def OpenSpec.upto (s : _root_.Go.ChangeSpec) : _root_.Go.OpenSpec := { _root_.Go.OpenSpec.ofChange s with cond := some uptoSmall }

/-- 'umpiragetop.TopSub', WHERE WHAT IT READS IS OF BULK AT MOST 1048576: true; the input reads as it did. -/
def topSubUptoRow : OpenClaim := { program := "ytlfgcblijfflfaagreat", sum := "087f229eded8fb8d728c6d3c68a640c05a10dff617c7cfd36f4128fb1ffcafd1", func := "umpirage/umpiragetop.TopSub", spec := "topSub", unfollowed := true, recurses := true, plainKeys := false, apart := false, narrowed := true }
def TopSubUptoSaid : Prop := topSubUptoRow.holds Tryz.pinned (OpenSpec.upto topSubSpec)

/-- 'umpiragetop.TopParities', WHERE WHAT IT READS IS OF BULK AT MOST 1048576: true; the input reads as it did. -/
def topParitiesUptoRow : OpenClaim := { program := "ytlfgcblijfflfaagreat", sum := "087f229eded8fb8d728c6d3c68a640c05a10dff617c7cfd36f4128fb1ffcafd1", func := "umpirage/umpiragetop.TopParities", spec := "topParities", unfollowed := true, recurses := true, plainKeys := false, apart := false, narrowed := true }
def TopParitiesUptoSaid : Prop := topParitiesUptoRow.holds Tryz.pinned (OpenSpec.upto topParitiesSpec)

/-- 'umpiragetop.TopHeaps', WHERE WHAT IT READS IS OF BULK AT MOST 1048576: true; the input reads as it did. -/
def topHeapsUptoRow : OpenClaim := { program := "ytlfgcblijfflfaagreat", sum := "087f229eded8fb8d728c6d3c68a640c05a10dff617c7cfd36f4128fb1ffcafd1", func := "umpirage/umpiragetop.TopHeaps", spec := "topHeaps", unfollowed := true, recurses := true, plainKeys := false, apart := false, narrowed := true }
def TopHeapsUptoSaid : Prop := topHeapsUptoRow.holds Tryz.pinned (OpenSpec.upto topHeapsSpec)

end Rows
end Go.Proofs.YtlfgcblijfflfaaGreat
