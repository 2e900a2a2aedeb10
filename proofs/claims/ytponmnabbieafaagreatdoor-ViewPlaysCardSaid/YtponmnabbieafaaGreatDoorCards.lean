/-
  DERIVED. GIVEN WITH THE SEED: THE CARDS: each row of YtponmnabbieafaaGreatDoorRows.lean that lists a variable, with what it lists TIED to the program's text (the seventh form; the later family's looks); each row that meets fmt, with fmt's text TOLD by the authors' own Lean function (tested against real Go, not proved from fmt's source: count such statements apart). THE CARD IS WHAT COUNTS. Prove the row's statement (the work); the ties are given (YtponmnabbieafaaGreatDoorTie.lean); close each card by the builder's one call (the guide's Derived/Test/ToyasCard.lean, 'card_holds'). Laid BY PROGRAM, IN A SANDBOX (cutbox-door.mjs). By AI agents, Wed Nov 11 2026. No macro, syntax, notation, axiom, sorry.
-/
import Derived.Test.YtponmnabbieafaaGreatDoorRows
import GoSem.ClaimSeven
namespace Go.Proofs.YtponmnabbieafaaGreatDoor
namespace Rows

/-- THE TIED CARD OF 'cubbyholelaw17.ViewPlays'. -/
def viewPlaysCard : Claim7 := { stood := { row := viewPlaysRow, standIns := [], harness := (true, "44d1cd07b309fcfe42c149455ce4aaf4202210581f0302a072de2060b23d3d24"), looks := false }, kinds := [], alts := [], laidByText := true, laidKinds := [.data, .data, .data, .listed, .data], laidTests := true, laidLooks := .later }
def ViewPlaysCardSaid : Prop := Claim7.holds Tryz.pinned (.plain (OpenSpec.ofChange viewPlaysSpec)) viewPlaysCard

/-- THE TIED CARD OF 'cubbyholelaw17.ViewParts'. -/
def viewPartsCard : Claim7 := { stood := { row := viewPartsRow, standIns := [], harness := (true, "44d1cd07b309fcfe42c149455ce4aaf4202210581f0302a072de2060b23d3d24"), looks := false }, kinds := [], alts := [], laidByText := true, laidKinds := [.data, .data, .data, .listed, .data], laidTests := true, laidLooks := .later }
def ViewPartsCardSaid : Prop := Claim7.holds Tryz.pinned (.plain (OpenSpec.ofChange viewPartsSpec)) viewPartsCard

/-- THE TIED CARD OF 'cubbyholelaw17.ViewNil'. -/
def viewNilCard : Claim7 := { stood := { row := viewNilRow, standIns := [], harness := (true, "44d1cd07b309fcfe42c149455ce4aaf4202210581f0302a072de2060b23d3d24"), looks := false }, kinds := [], alts := [], laidByText := true, laidKinds := [.data, .data, .data, .listed, .data], laidTests := true, laidLooks := .later }
def ViewNilCardSaid : Prop := Claim7.holds Tryz.pinned (.plain (OpenSpec.ofChange viewNilSpec)) viewNilCard

/-- THE SECOND FORM's CARD OF 'cubbyholelaw17.ViewPlays'. -/
def viewPlaysUptoCard : Claim7 := { stood := { row := viewPlaysUptoRow, standIns := [], harness := (true, "44d1cd07b309fcfe42c149455ce4aaf4202210581f0302a072de2060b23d3d24"), looks := false }, kinds := [], alts := [], laidByText := true, laidKinds := [.data, .data, .data, .listed, .data], laidTests := true, laidLooks := .later }
def ViewPlaysUptoCardSaid : Prop := Claim7.holds Tryz.pinned (.plain (OpenSpec.upto viewPlaysSpec)) viewPlaysUptoCard

/-- THE SECOND FORM's CARD OF 'cubbyholelaw17.ViewParts'. -/
def viewPartsUptoCard : Claim7 := { stood := { row := viewPartsUptoRow, standIns := [], harness := (true, "44d1cd07b309fcfe42c149455ce4aaf4202210581f0302a072de2060b23d3d24"), looks := false }, kinds := [], alts := [], laidByText := true, laidKinds := [.data, .data, .data, .listed, .data], laidTests := true, laidLooks := .later }
def ViewPartsUptoCardSaid : Prop := Claim7.holds Tryz.pinned (.plain (OpenSpec.upto viewPartsSpec)) viewPartsUptoCard

/-- THE SECOND FORM's CARD OF 'cubbyholelaw17.ViewNil'. -/
def viewNilUptoCard : Claim7 := { stood := { row := viewNilUptoRow, standIns := [], harness := (true, "44d1cd07b309fcfe42c149455ce4aaf4202210581f0302a072de2060b23d3d24"), looks := false }, kinds := [], alts := [], laidByText := true, laidKinds := [.data, .data, .data, .listed, .data], laidTests := true, laidLooks := .later }
def ViewNilUptoCardSaid : Prop := Claim7.holds Tryz.pinned (.plain (OpenSpec.upto viewNilSpec)) viewNilUptoCard
end Rows
end Go.Proofs.YtponmnabbieafaaGreatDoor
