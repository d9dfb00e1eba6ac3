/-
  DERIVED. GIVEN WITH THE SEED: THE CARDS: each row of YtabjbpkojbdgaaaGreatDoorRows.lean that lists a variable, with what it lists TIED to the program's text (the seventh form; the later family's looks); each row that meets fmt, with fmt's text TOLD by the authors' own Lean function (tested against real Go, not proved from fmt's source: count such statements apart). THE CARD IS WHAT COUNTS. Prove the row's statement (the work); the ties are given (YtabjbpkojbdgaaaGreatDoorTie.lean); close each card by the builder's one call (the guide's Derived/Test/ToyasCard.lean, 'card_holds'). Laid BY PROGRAM, IN A SANDBOX (cutbox-door.mjs). By AI agents, Wed Nov 11 2026. No macro, syntax, notation, axiom, sorry.
-/
import Derived.Test.YtabjbpkojbdgaaaGreatDoorRows
import GoSem.ClaimSeven
namespace Go.Proofs.YtabjbpkojbdgaaaGreatDoor
namespace Rows

/-- THE TIED CARD OF 'umpiragelaw3.CnfBack'. -/
def cnfBackCard : Claim7 := { stood := { row := cnfBackRow, standIns := [], harness := (true, "9600f9469984d4223817aa3162cea7435e856aa2483e86c4b65770a95ae54a5f"), looks := true }, kinds := [], alts := [], laidByText := true, laidKinds := [.data, .data, .data, .data, .sentinel, .sentinel, .pinned], laidTests := true, laidLooks := .later }
def CnfBackCardSaid : Prop := Claim7.holds Tryz.pinned (.plain (OpenSpec.ofChange cnfBackSpec)) cnfBackCard

/-- THE SECOND FORM's CARD OF 'umpiragelaw3.CnfBack'. -/
def cnfBackUptoCard : Claim7 := { stood := { row := cnfBackUptoRow, standIns := [], harness := (true, "9600f9469984d4223817aa3162cea7435e856aa2483e86c4b65770a95ae54a5f"), looks := true }, kinds := [], alts := [], laidByText := true, laidKinds := [.data, .data, .data, .data, .sentinel, .sentinel, .pinned], laidTests := true, laidLooks := .later }
def CnfBackUptoCardSaid : Prop := Claim7.holds Tryz.pinned (.plain (OpenSpec.upto cnfBackSpec)) cnfBackUptoCard
end Rows
end Go.Proofs.YtabjbpkojbdgaaaGreatDoor
