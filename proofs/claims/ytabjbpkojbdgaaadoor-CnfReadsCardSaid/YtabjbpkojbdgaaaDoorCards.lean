/-
  DERIVED. GIVEN WITH THE SEED: THE CARDS: each row of YtabjbpkojbdgaaaDoorRows.lean that lists a variable, with what it lists TIED to the program's text (the seventh form; the later family's looks); each row that meets fmt, with fmt's text TOLD by the authors' own Lean function (tested against real Go, not proved from fmt's source: count such statements apart). THE CARD IS WHAT COUNTS. Prove the row's statement (the work); the ties are given (YtabjbpkojbdgaaaDoorTie.lean); close each card by the builder's one call (the guide's Derived/Test/ToyasCard.lean, 'card_holds'). Laid BY PROGRAM, IN A SANDBOX (cutbox-door.mjs). By AI agents, Wed Nov 11 2026. No macro, syntax, notation, axiom, sorry.
-/
import Derived.Test.YtabjbpkojbdgaaaDoorRows
import GoSem.ClaimSeven
namespace Go.Proofs.YtabjbpkojbdgaaaDoor
namespace Rows

/-- THE TIED CARD OF 'umpiragelaw3.CnfTexts'. -/
def cnfTextsCard : Claim7 := { stood := { row := cnfTextsRow, standIns := [], harness := (true, "aff3d492804e1c9e2706dc1a1dcc0c6fcf86095be9d3ccff3d06c57ab8359f70"), looks := true }, kinds := [], alts := [], laidByText := true, laidKinds := [.data, .data, .data], laidTests := true, laidLooks := .later }
def CnfTextsCardSaid : Prop := Claim7.holds Tryd.pinned (.plain (OpenSpec.ofChange cnfTextsSpec)) cnfTextsCard

/-- THE TIED CARD OF 'umpiragelaw3.CnfReads'. -/
def cnfReadsCard : Claim7 := { stood := { row := cnfReadsRow, standIns := [], harness := (true, "aff3d492804e1c9e2706dc1a1dcc0c6fcf86095be9d3ccff3d06c57ab8359f70"), looks := true }, kinds := [], alts := [], laidByText := true, laidKinds := [.data, .data, .data, .data, .sentinel, .sentinel, .pinned], laidTests := true, laidLooks := .later }
def CnfReadsCardSaid : Prop := Claim7.holds Tryd.pinned (.plain (OpenSpec.ofChange cnfReadsSpec)) cnfReadsCard

/-- THE SECOND FORM's CARD OF 'umpiragelaw3.CnfTexts'. -/
def cnfTextsUptoCard : Claim7 := { stood := { row := cnfTextsUptoRow, standIns := [], harness := (true, "aff3d492804e1c9e2706dc1a1dcc0c6fcf86095be9d3ccff3d06c57ab8359f70"), looks := true }, kinds := [], alts := [], laidByText := true, laidKinds := [.data, .data, .data], laidTests := true, laidLooks := .later }
def CnfTextsUptoCardSaid : Prop := Claim7.holds Tryd.pinned (.plain (OpenSpec.upto cnfTextsSpec)) cnfTextsUptoCard

/-- THE SECOND FORM's CARD OF 'umpiragelaw3.CnfReads'. -/
def cnfReadsUptoCard : Claim7 := { stood := { row := cnfReadsUptoRow, standIns := [], harness := (true, "aff3d492804e1c9e2706dc1a1dcc0c6fcf86095be9d3ccff3d06c57ab8359f70"), looks := true }, kinds := [], alts := [], laidByText := true, laidKinds := [.data, .data, .data, .data, .sentinel, .sentinel, .pinned], laidTests := true, laidLooks := .later }
def CnfReadsUptoCardSaid : Prop := Claim7.holds Tryd.pinned (.plain (OpenSpec.upto cnfReadsSpec)) cnfReadsUptoCard
end Rows
end Go.Proofs.YtabjbpkojbdgaaaDoor
