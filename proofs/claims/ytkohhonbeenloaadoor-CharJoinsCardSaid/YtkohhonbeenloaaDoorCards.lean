/-
  DERIVED. GIVEN WITH THE SEED: THE CARDS: each row of YtkohhonbeenloaaDoorRows.lean that lists a variable, with what it lists TIED to the program's text (the seventh form; the later family's looks); each row that meets fmt, with fmt's text TOLD by the authors' own Lean function (tested against real Go, not proved from fmt's source: count such statements apart). THE CARD IS WHAT COUNTS. Prove the row's statement (the work); the ties are given (YtkohhonbeenloaaDoorTie.lean); close each card by the builder's one call (the guide's Derived/Test/ToyasCard.lean, 'card_holds'). Laid BY PROGRAM, IN A SANDBOX (cutbox-door.mjs). By AI agents, Wed Nov 11 2026. No macro, syntax, notation, axiom, sorry.
-/
import Derived.Test.YtkohhonbeenloaaDoorRows
import GoSem.ClaimSeven
namespace Go.Proofs.YtkohhonbeenloaaDoor
namespace Rows

/-- THE TIED CARD OF 'cubbyholelaw01.CharNumbers'. -/
def charNumbersCard : Claim7 := { stood := { row := charNumbersRow, standIns := [], harness := (true, "17fe319e85ac52357e85cf6806898dbf44c6c958528ca643f36dac20ae30d5f4"), looks := true }, kinds := [], alts := [], laidByText := true, laidKinds := [.data, .data, .data, .sentinel, .sentinel], laidTests := true, laidLooks := .later }
def CharNumbersCardSaid : Prop := Claim7.holds Tryd.pinned (.plain (OpenSpec.ofChange charNumbersSpec)) charNumbersCard

/-- THE TIED CARD OF 'cubbyholelaw01.CharClasses'. -/
def charClassesCard : Claim7 := { stood := { row := charClassesRow, standIns := [], harness := (true, "17fe319e85ac52357e85cf6806898dbf44c6c958528ca643f36dac20ae30d5f4"), looks := true }, kinds := [], alts := [], laidByText := true, laidKinds := [.data, .data, .data, .sentinel, .sentinel], laidTests := true, laidLooks := .later }
def CharClassesCardSaid : Prop := Claim7.holds Tryd.pinned (.plain (OpenSpec.ofChange charClassesSpec)) charClassesCard

/-- THE TIED CARD OF 'cubbyholelaw01.CharUppers'. -/
def charUppersCard : Claim7 := { stood := { row := charUppersRow, standIns := [], harness := (true, "17fe319e85ac52357e85cf6806898dbf44c6c958528ca643f36dac20ae30d5f4"), looks := true }, kinds := [], alts := [], laidByText := true, laidKinds := [.data, .data, .data, .sentinel, .sentinel], laidTests := true, laidLooks := .later }
def CharUppersCardSaid : Prop := Claim7.holds Tryd.pinned (.plain (OpenSpec.ofChange charUppersSpec)) charUppersCard

/-- THE TIED CARD OF 'cubbyholelaw01.CharDecimals'. -/
def charDecimalsCard : Claim7 := { stood := { row := charDecimalsRow, standIns := [], harness := (true, "17fe319e85ac52357e85cf6806898dbf44c6c958528ca643f36dac20ae30d5f4"), looks := true }, kinds := [], alts := [], laidByText := true, laidKinds := [.data, .data, .data, .sentinel, .sentinel], laidTests := true, laidLooks := .later }
def CharDecimalsCardSaid : Prop := Claim7.holds Tryd.pinned (.plain (OpenSpec.ofChange charDecimalsSpec)) charDecimalsCard

/-- THE TIED CARD OF 'cubbyholelaw01.CharStrings'. -/
def charStringsCard : Claim7 := { stood := { row := charStringsRow, standIns := [], harness := (true, "17fe319e85ac52357e85cf6806898dbf44c6c958528ca643f36dac20ae30d5f4"), looks := true }, kinds := [], alts := [], laidByText := true, laidKinds := [.data, .data, .data, .sentinel, .sentinel], laidTests := true, laidLooks := .later }
def CharStringsCardSaid : Prop := Claim7.holds Tryd.pinned (.plain (OpenSpec.ofChange charStringsSpec)) charStringsCard

/-- THE TIED CARD OF 'cubbyholelaw01.CharJoins'. -/
def charJoinsCard : Claim7 := { stood := { row := charJoinsRow, standIns := [], harness := (true, "17fe319e85ac52357e85cf6806898dbf44c6c958528ca643f36dac20ae30d5f4"), looks := true }, kinds := [], alts := [], laidByText := true, laidKinds := [.data, .data, .data, .sentinel, .sentinel], laidTests := true, laidLooks := .later }
def CharJoinsCardSaid : Prop := Claim7.holds Tryd.pinned (.plain (OpenSpec.ofChange charJoinsSpec)) charJoinsCard

/-- THE SECOND FORM's CARD OF 'cubbyholelaw01.CharNumbers'. -/
def charNumbersUptoCard : Claim7 := { stood := { row := charNumbersUptoRow, standIns := [], harness := (true, "17fe319e85ac52357e85cf6806898dbf44c6c958528ca643f36dac20ae30d5f4"), looks := true }, kinds := [], alts := [], laidByText := true, laidKinds := [.data, .data, .data, .sentinel, .sentinel], laidTests := true, laidLooks := .later }
def CharNumbersUptoCardSaid : Prop := Claim7.holds Tryd.pinned (.plain (OpenSpec.upto charNumbersSpec)) charNumbersUptoCard

/-- THE SECOND FORM's CARD OF 'cubbyholelaw01.CharClasses'. -/
def charClassesUptoCard : Claim7 := { stood := { row := charClassesUptoRow, standIns := [], harness := (true, "17fe319e85ac52357e85cf6806898dbf44c6c958528ca643f36dac20ae30d5f4"), looks := true }, kinds := [], alts := [], laidByText := true, laidKinds := [.data, .data, .data, .sentinel, .sentinel], laidTests := true, laidLooks := .later }
def CharClassesUptoCardSaid : Prop := Claim7.holds Tryd.pinned (.plain (OpenSpec.upto charClassesSpec)) charClassesUptoCard

/-- THE SECOND FORM's CARD OF 'cubbyholelaw01.CharUppers'. -/
def charUppersUptoCard : Claim7 := { stood := { row := charUppersUptoRow, standIns := [], harness := (true, "17fe319e85ac52357e85cf6806898dbf44c6c958528ca643f36dac20ae30d5f4"), looks := true }, kinds := [], alts := [], laidByText := true, laidKinds := [.data, .data, .data, .sentinel, .sentinel], laidTests := true, laidLooks := .later }
def CharUppersUptoCardSaid : Prop := Claim7.holds Tryd.pinned (.plain (OpenSpec.upto charUppersSpec)) charUppersUptoCard

/-- THE SECOND FORM's CARD OF 'cubbyholelaw01.CharDecimals'. -/
def charDecimalsUptoCard : Claim7 := { stood := { row := charDecimalsUptoRow, standIns := [], harness := (true, "17fe319e85ac52357e85cf6806898dbf44c6c958528ca643f36dac20ae30d5f4"), looks := true }, kinds := [], alts := [], laidByText := true, laidKinds := [.data, .data, .data, .sentinel, .sentinel], laidTests := true, laidLooks := .later }
def CharDecimalsUptoCardSaid : Prop := Claim7.holds Tryd.pinned (.plain (OpenSpec.upto charDecimalsSpec)) charDecimalsUptoCard

/-- THE SECOND FORM's CARD OF 'cubbyholelaw01.CharStrings'. -/
def charStringsUptoCard : Claim7 := { stood := { row := charStringsUptoRow, standIns := [], harness := (true, "17fe319e85ac52357e85cf6806898dbf44c6c958528ca643f36dac20ae30d5f4"), looks := true }, kinds := [], alts := [], laidByText := true, laidKinds := [.data, .data, .data, .sentinel, .sentinel], laidTests := true, laidLooks := .later }
def CharStringsUptoCardSaid : Prop := Claim7.holds Tryd.pinned (.plain (OpenSpec.upto charStringsSpec)) charStringsUptoCard

/-- THE SECOND FORM's CARD OF 'cubbyholelaw01.CharJoins'. -/
def charJoinsUptoCard : Claim7 := { stood := { row := charJoinsUptoRow, standIns := [], harness := (true, "17fe319e85ac52357e85cf6806898dbf44c6c958528ca643f36dac20ae30d5f4"), looks := true }, kinds := [], alts := [], laidByText := true, laidKinds := [.data, .data, .data, .sentinel, .sentinel], laidTests := true, laidLooks := .later }
def CharJoinsUptoCardSaid : Prop := Claim7.holds Tryd.pinned (.plain (OpenSpec.upto charJoinsSpec)) charJoinsUptoCard
end Rows
end Go.Proofs.YtkohhonbeenloaaDoor
