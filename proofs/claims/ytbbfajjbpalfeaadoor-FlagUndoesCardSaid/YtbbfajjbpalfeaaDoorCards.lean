/-
  DERIVED. GIVEN WITH THE SEED: THE CARDS: each row of YtbbfajjbpalfeaaDoorRows.lean that lists a variable, with what it lists TIED to the program's text (the seventh form; the later family's looks); each row that meets fmt, with fmt's text TOLD by the authors' own Lean function (tested against real Go, not proved from fmt's source: count such statements apart). THE CARD IS WHAT COUNTS. Prove the row's statement (the work); the ties are given (YtbbfajjbpalfeaaDoorTie.lean); close each card by the builder's one call (the guide's Derived/Test/ToyasCard.lean, 'card_holds'). Laid BY PROGRAM, IN A SANDBOX (cutbox-door.mjs). By AI agents, Wed Nov 11 2026. No macro, syntax, notation, axiom, sorry.
-/
import Derived.Test.YtbbfajjbpalfeaaDoorRows
import GoSem.ClaimSeven
namespace Go.Proofs.YtbbfajjbpalfeaaDoor
namespace Rows

/-- THE TIED CARD OF 'cubbyholelaw03.FlagNames'. -/
def flagNamesCard : Claim7 := { stood := { row := flagNamesRow, standIns := [], harness := (true, "e4f4d700d988dffb5d1c89df0b2a33a2d3f611ac4399d9eb66e3875aa0dd8397"), looks := false }, kinds := [], alts := [], laidByText := true, laidKinds := [.data, .listed, .data, .pinned], laidTests := true, laidLooks := .later }
def FlagNamesCardSaid : Prop := Claim7.holds Tryd.pinned (.plain (OpenSpec.ofChange flagNamesSpec)) flagNamesCard

/-- THE TIED CARD OF 'cubbyholelaw03.FlagParses'. -/
def flagParsesCard : Claim7 := { stood := { row := flagParsesRow, standIns := [], harness := (true, "e4f4d700d988dffb5d1c89df0b2a33a2d3f611ac4399d9eb66e3875aa0dd8397"), looks := false }, kinds := [], alts := [], laidByText := true, laidKinds := [.data, .listed, .data, .pinned], laidTests := true, laidLooks := .later }
def FlagParsesCardSaid : Prop := Claim7.holds Tryd.pinned (.plain (OpenSpec.ofChange flagParsesSpec)) flagParsesCard

/-- THE TIED CARD OF 'cubbyholelaw03.FlagLists'. -/
def flagListsCard : Claim7 := { stood := { row := flagListsRow, standIns := [], harness := (true, "e4f4d700d988dffb5d1c89df0b2a33a2d3f611ac4399d9eb66e3875aa0dd8397"), looks := false }, kinds := [], alts := [], laidByText := true, laidKinds := [.data, .listed, .data, .pinned], laidTests := true, laidLooks := .later }
def FlagListsCardSaid : Prop := Claim7.holds Tryd.pinned (.plain (OpenSpec.ofChange flagListsSpec)) flagListsCard

/-- THE TIED CARD OF 'cubbyholelaw03.FlagOrder'. -/
def flagOrderCard : Claim7 := { stood := { row := flagOrderRow, standIns := [], harness := (true, "e4f4d700d988dffb5d1c89df0b2a33a2d3f611ac4399d9eb66e3875aa0dd8397"), looks := false }, kinds := [], alts := [], laidByText := true, laidKinds := [.data, .listed, .data, .pinned], laidTests := true, laidLooks := .later }
def FlagOrderCardSaid : Prop := Claim7.holds Tryd.pinned (.plain (OpenSpec.ofChange flagOrderSpec)) flagOrderCard

/-- THE TIED CARD OF 'cubbyholelaw03.FlagChanges'. -/
def flagChangesCard : Claim7 := { stood := { row := flagChangesRow, standIns := [], harness := (true, "e4f4d700d988dffb5d1c89df0b2a33a2d3f611ac4399d9eb66e3875aa0dd8397"), looks := false }, kinds := [], alts := [], laidByText := true, laidKinds := [.data, .listed, .data, .pinned], laidTests := true, laidLooks := .later }
def FlagChangesCardSaid : Prop := Claim7.holds Tryd.pinned (.plain (OpenSpec.ofChange flagChangesSpec)) flagChangesCard

/-- THE TIED CARD OF 'cubbyholelaw03.FlagUndoes'. -/
def flagUndoesCard : Claim7 := { stood := { row := flagUndoesRow, standIns := [], harness := (true, "e4f4d700d988dffb5d1c89df0b2a33a2d3f611ac4399d9eb66e3875aa0dd8397"), looks := false }, kinds := [], alts := [], laidByText := true, laidKinds := [.data, .listed, .data, .pinned], laidTests := true, laidLooks := .later }
def FlagUndoesCardSaid : Prop := Claim7.holds Tryd.pinned (.plain (OpenSpec.ofChange flagUndoesSpec)) flagUndoesCard

/-- THE SECOND FORM's CARD OF 'cubbyholelaw03.FlagNames'. -/
def flagNamesUptoCard : Claim7 := { stood := { row := flagNamesUptoRow, standIns := [], harness := (true, "e4f4d700d988dffb5d1c89df0b2a33a2d3f611ac4399d9eb66e3875aa0dd8397"), looks := false }, kinds := [], alts := [], laidByText := true, laidKinds := [.data, .listed, .data, .pinned], laidTests := true, laidLooks := .later }
def FlagNamesUptoCardSaid : Prop := Claim7.holds Tryd.pinned (.plain (OpenSpec.upto flagNamesSpec)) flagNamesUptoCard

/-- THE SECOND FORM's CARD OF 'cubbyholelaw03.FlagParses'. -/
def flagParsesUptoCard : Claim7 := { stood := { row := flagParsesUptoRow, standIns := [], harness := (true, "e4f4d700d988dffb5d1c89df0b2a33a2d3f611ac4399d9eb66e3875aa0dd8397"), looks := false }, kinds := [], alts := [], laidByText := true, laidKinds := [.data, .listed, .data, .pinned], laidTests := true, laidLooks := .later }
def FlagParsesUptoCardSaid : Prop := Claim7.holds Tryd.pinned (.plain (OpenSpec.upto flagParsesSpec)) flagParsesUptoCard

/-- THE SECOND FORM's CARD OF 'cubbyholelaw03.FlagLists'. -/
def flagListsUptoCard : Claim7 := { stood := { row := flagListsUptoRow, standIns := [], harness := (true, "e4f4d700d988dffb5d1c89df0b2a33a2d3f611ac4399d9eb66e3875aa0dd8397"), looks := false }, kinds := [], alts := [], laidByText := true, laidKinds := [.data, .listed, .data, .pinned], laidTests := true, laidLooks := .later }
def FlagListsUptoCardSaid : Prop := Claim7.holds Tryd.pinned (.plain (OpenSpec.upto flagListsSpec)) flagListsUptoCard

/-- THE SECOND FORM's CARD OF 'cubbyholelaw03.FlagOrder'. -/
def flagOrderUptoCard : Claim7 := { stood := { row := flagOrderUptoRow, standIns := [], harness := (true, "e4f4d700d988dffb5d1c89df0b2a33a2d3f611ac4399d9eb66e3875aa0dd8397"), looks := false }, kinds := [], alts := [], laidByText := true, laidKinds := [.data, .listed, .data, .pinned], laidTests := true, laidLooks := .later }
def FlagOrderUptoCardSaid : Prop := Claim7.holds Tryd.pinned (.plain (OpenSpec.upto flagOrderSpec)) flagOrderUptoCard

/-- THE SECOND FORM's CARD OF 'cubbyholelaw03.FlagChanges'. -/
def flagChangesUptoCard : Claim7 := { stood := { row := flagChangesUptoRow, standIns := [], harness := (true, "e4f4d700d988dffb5d1c89df0b2a33a2d3f611ac4399d9eb66e3875aa0dd8397"), looks := false }, kinds := [], alts := [], laidByText := true, laidKinds := [.data, .listed, .data, .pinned], laidTests := true, laidLooks := .later }
def FlagChangesUptoCardSaid : Prop := Claim7.holds Tryd.pinned (.plain (OpenSpec.upto flagChangesSpec)) flagChangesUptoCard

/-- THE SECOND FORM's CARD OF 'cubbyholelaw03.FlagUndoes'. -/
def flagUndoesUptoCard : Claim7 := { stood := { row := flagUndoesUptoRow, standIns := [], harness := (true, "e4f4d700d988dffb5d1c89df0b2a33a2d3f611ac4399d9eb66e3875aa0dd8397"), looks := false }, kinds := [], alts := [], laidByText := true, laidKinds := [.data, .listed, .data, .pinned], laidTests := true, laidLooks := .later }
def FlagUndoesUptoCardSaid : Prop := Claim7.holds Tryd.pinned (.plain (OpenSpec.upto flagUndoesSpec)) flagUndoesUptoCard
end Rows
end Go.Proofs.YtbbfajjbpalfeaaDoor
