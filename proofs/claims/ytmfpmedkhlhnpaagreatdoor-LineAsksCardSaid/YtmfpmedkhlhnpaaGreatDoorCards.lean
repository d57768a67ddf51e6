/-
  DERIVED. GIVEN WITH THE SEED: THE CARDS: each row of YtmfpmedkhlhnpaaGreatDoorRows.lean that lists a variable, with what it lists TIED to the program's text (the seventh form; the later family's looks); each row that meets fmt, with fmt's text TOLD by the authors' own Lean function (tested against real Go, not proved from fmt's source: count such statements apart). THE CARD IS WHAT COUNTS. Prove the row's statement (the work); the ties are given (YtmfpmedkhlhnpaaGreatDoorTie.lean); close each card by the builder's one call (the guide's Derived/Test/ToyasCard.lean, 'card_holds'). Laid BY PROGRAM, IN A SANDBOX (cutbox-door.mjs). By AI agents, Wed Nov 11 2026. No macro, syntax, notation, axiom, sorry.
-/
import Derived.Test.YtmfpmedkhlhnpaaGreatDoorRows
import GoSem.ClaimSeven
namespace Go.Proofs.YtmfpmedkhlhnpaaGreatDoor
namespace Rows

/-- THE TIED CARD OF 'knapsacklaw20.LineAsks'. -/
def lineAsksCard : Claim7 := { stood := { row := lineAsksRow, standIns := [], harness := (true, "2509b504536f1be4ec154a3c9b004472094789a172c5e9bd9ae5ac07f0acb60b"), looks := true }, kinds := [], alts := [], laidByText := true, laidKinds := [.data, .data, .data, .data, .sentinel, .sentinel, .pinned], laidTests := true, laidLooks := .later }
def LineAsksCardSaid : Prop := Claim7.holds Tryz.pinned (.plain (OpenSpec.ofChange lineAsksSpec)) lineAsksCard

/-- THE TIED CARD OF 'knapsacklaw20.LineTells'. -/
def lineTellsCard : Claim7 := { stood := { row := lineTellsRow, standIns := [], harness := (true, "2509b504536f1be4ec154a3c9b004472094789a172c5e9bd9ae5ac07f0acb60b"), looks := true }, kinds := [], alts := [], laidByText := true, laidKinds := [.data, .data, .data, .data, .sentinel, .sentinel, .pinned], laidTests := true, laidLooks := .later }
def LineTellsCardSaid : Prop := Claim7.holds Tryz.pinned (.plain (OpenSpec.ofChange lineTellsSpec)) lineTellsCard

/-- THE TIED CARD OF 'knapsacklaw20.LineReads'. -/
def lineReadsCard : Claim7 := { stood := { row := lineReadsRow, standIns := [], harness := (true, "2509b504536f1be4ec154a3c9b004472094789a172c5e9bd9ae5ac07f0acb60b"), looks := true }, kinds := [], alts := [], laidByText := true, laidKinds := [.data, .data, .data, .data, .sentinel, .sentinel, .pinned], laidTests := true, laidLooks := .later }
def LineReadsCardSaid : Prop := Claim7.holds Tryz.pinned (.plain (OpenSpec.ofChange lineReadsSpec)) lineReadsCard

/-- THE SECOND FORM's CARD OF 'knapsacklaw20.LineAsks'. -/
def lineAsksUptoCard : Claim7 := { stood := { row := lineAsksUptoRow, standIns := [], harness := (true, "2509b504536f1be4ec154a3c9b004472094789a172c5e9bd9ae5ac07f0acb60b"), looks := true }, kinds := [], alts := [], laidByText := true, laidKinds := [.data, .data, .data, .data, .sentinel, .sentinel, .pinned], laidTests := true, laidLooks := .later }
def LineAsksUptoCardSaid : Prop := Claim7.holds Tryz.pinned (.plain (OpenSpec.upto lineAsksSpec)) lineAsksUptoCard

/-- THE SECOND FORM's CARD OF 'knapsacklaw20.LineTells'. -/
def lineTellsUptoCard : Claim7 := { stood := { row := lineTellsUptoRow, standIns := [], harness := (true, "2509b504536f1be4ec154a3c9b004472094789a172c5e9bd9ae5ac07f0acb60b"), looks := true }, kinds := [], alts := [], laidByText := true, laidKinds := [.data, .data, .data, .data, .sentinel, .sentinel, .pinned], laidTests := true, laidLooks := .later }
def LineTellsUptoCardSaid : Prop := Claim7.holds Tryz.pinned (.plain (OpenSpec.upto lineTellsSpec)) lineTellsUptoCard

/-- THE SECOND FORM's CARD OF 'knapsacklaw20.LineReads'. -/
def lineReadsUptoCard : Claim7 := { stood := { row := lineReadsUptoRow, standIns := [], harness := (true, "2509b504536f1be4ec154a3c9b004472094789a172c5e9bd9ae5ac07f0acb60b"), looks := true }, kinds := [], alts := [], laidByText := true, laidKinds := [.data, .data, .data, .data, .sentinel, .sentinel, .pinned], laidTests := true, laidLooks := .later }
def LineReadsUptoCardSaid : Prop := Claim7.holds Tryz.pinned (.plain (OpenSpec.upto lineReadsSpec)) lineReadsUptoCard
end Rows
end Go.Proofs.YtmfpmedkhlhnpaaGreatDoor
