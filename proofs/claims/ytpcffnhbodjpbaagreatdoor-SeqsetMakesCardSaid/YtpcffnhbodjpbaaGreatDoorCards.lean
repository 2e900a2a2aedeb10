/-
  DERIVED. GIVEN WITH THE SEED: THE CARDS: each row of YtpcffnhbodjpbaaGreatDoorRows.lean that lists a variable, with what it lists TIED to the program's text (the seventh form; the later family's looks); each row that meets fmt, with fmt's text TOLD by the authors' own Lean function (tested against real Go, not proved from fmt's source: count such statements apart). THE CARD IS WHAT COUNTS. Prove the row's statement (the work); the ties are given (YtpcffnhbodjpbaaGreatDoorTie.lean); close each card by the builder's one call (the guide's Derived/Test/ToyasCard.lean, 'card_holds'). Laid BY PROGRAM, IN A SANDBOX (cutbox-door.mjs). By AI agents, Wed Nov 11 2026. No macro, syntax, notation, axiom, sorry.
-/
import Derived.Test.YtpcffnhbodjpbaaGreatDoorRows
import GoSem.ClaimSeven
namespace Go.Proofs.YtpcffnhbodjpbaaGreatDoor
namespace Rows

/-- THE TIED CARD OF 'cubbyholelaw02.SeqsetInverse'. -/
def seqsetInverseCard : Claim7 := { stood := { row := seqsetInverseRow, standIns := [], harness := (true, "a5975c1a1e2ecfaa9d2a9ef94dd6bdd8e18d90ae2b5023b1b0ff88f21175b0ed"), looks := true }, kinds := [], alts := [], laidByText := true, laidKinds := [.data, .data, .data, .data, .sentinel, .sentinel, .pinned], laidTests := true, laidLooks := .later }
def SeqsetInverseCardSaid : Prop := Claim7.holds Tryz.pinned (.plain (OpenSpec.ofChange seqsetInverseSpec)) seqsetInverseCard

/-- THE TIED CARD OF 'cubbyholelaw02.SeqsetNumbers'. -/
def seqsetNumbersCard : Claim7 := { stood := { row := seqsetNumbersRow, standIns := [], harness := (true, "a5975c1a1e2ecfaa9d2a9ef94dd6bdd8e18d90ae2b5023b1b0ff88f21175b0ed"), looks := true }, kinds := [], alts := [], laidByText := true, laidKinds := [.data, .data, .data, .data, .sentinel, .sentinel, .pinned], laidTests := true, laidLooks := .later }
def SeqsetNumbersCardSaid : Prop := Claim7.holds Tryz.pinned (.plain (OpenSpec.ofChange seqsetNumbersSpec)) seqsetNumbersCard

/-- THE TIED CARD OF 'cubbyholelaw02.SeqsetMakes'. -/
def seqsetMakesCard : Claim7 := { stood := { row := seqsetMakesRow, standIns := [], harness := (true, "a5975c1a1e2ecfaa9d2a9ef94dd6bdd8e18d90ae2b5023b1b0ff88f21175b0ed"), looks := true }, kinds := [], alts := [], laidByText := true, laidKinds := [.data, .data, .data, .data, .sentinel, .sentinel, .pinned], laidTests := true, laidLooks := .later }
def SeqsetMakesCardSaid : Prop := Claim7.holds Tryz.pinned (.plain (OpenSpec.ofChange seqsetMakesSpec)) seqsetMakesCard

/-- THE TIED CARD OF 'cubbyholelaw02.SeqsetHas'. -/
def seqsetHasCard : Claim7 := { stood := { row := seqsetHasRow, standIns := [], harness := (true, "a5975c1a1e2ecfaa9d2a9ef94dd6bdd8e18d90ae2b5023b1b0ff88f21175b0ed"), looks := true }, kinds := [], alts := [], laidByText := true, laidKinds := [.data, .data, .data, .data, .sentinel, .sentinel, .pinned], laidTests := true, laidLooks := .later }
def SeqsetHasCardSaid : Prop := Claim7.holds Tryz.pinned (.plain (OpenSpec.ofChange seqsetHasSpec)) seqsetHasCard

/-- THE TIED CARD OF 'cubbyholelaw02.SeqsetJoins'. -/
def seqsetJoinsCard : Claim7 := { stood := { row := seqsetJoinsRow, standIns := [], harness := (true, "a5975c1a1e2ecfaa9d2a9ef94dd6bdd8e18d90ae2b5023b1b0ff88f21175b0ed"), looks := true }, kinds := [], alts := [], laidByText := true, laidKinds := [.data, .data, .data, .data, .sentinel, .sentinel, .pinned], laidTests := true, laidLooks := .later }
def SeqsetJoinsCardSaid : Prop := Claim7.holds Tryz.pinned (.plain (OpenSpec.ofChange seqsetJoinsSpec)) seqsetJoinsCard

/-- THE SECOND FORM's CARD OF 'cubbyholelaw02.SeqsetInverse'. -/
def seqsetInverseUptoCard : Claim7 := { stood := { row := seqsetInverseUptoRow, standIns := [], harness := (true, "a5975c1a1e2ecfaa9d2a9ef94dd6bdd8e18d90ae2b5023b1b0ff88f21175b0ed"), looks := true }, kinds := [], alts := [], laidByText := true, laidKinds := [.data, .data, .data, .data, .sentinel, .sentinel, .pinned], laidTests := true, laidLooks := .later }
def SeqsetInverseUptoCardSaid : Prop := Claim7.holds Tryz.pinned (.plain (OpenSpec.upto seqsetInverseSpec)) seqsetInverseUptoCard

/-- THE SECOND FORM's CARD OF 'cubbyholelaw02.SeqsetNumbers'. -/
def seqsetNumbersUptoCard : Claim7 := { stood := { row := seqsetNumbersUptoRow, standIns := [], harness := (true, "a5975c1a1e2ecfaa9d2a9ef94dd6bdd8e18d90ae2b5023b1b0ff88f21175b0ed"), looks := true }, kinds := [], alts := [], laidByText := true, laidKinds := [.data, .data, .data, .data, .sentinel, .sentinel, .pinned], laidTests := true, laidLooks := .later }
def SeqsetNumbersUptoCardSaid : Prop := Claim7.holds Tryz.pinned (.plain (OpenSpec.upto seqsetNumbersSpec)) seqsetNumbersUptoCard

/-- THE SECOND FORM's CARD OF 'cubbyholelaw02.SeqsetMakes'. -/
def seqsetMakesUptoCard : Claim7 := { stood := { row := seqsetMakesUptoRow, standIns := [], harness := (true, "a5975c1a1e2ecfaa9d2a9ef94dd6bdd8e18d90ae2b5023b1b0ff88f21175b0ed"), looks := true }, kinds := [], alts := [], laidByText := true, laidKinds := [.data, .data, .data, .data, .sentinel, .sentinel, .pinned], laidTests := true, laidLooks := .later }
def SeqsetMakesUptoCardSaid : Prop := Claim7.holds Tryz.pinned (.plain (OpenSpec.upto seqsetMakesSpec)) seqsetMakesUptoCard

/-- THE SECOND FORM's CARD OF 'cubbyholelaw02.SeqsetHas'. -/
def seqsetHasUptoCard : Claim7 := { stood := { row := seqsetHasUptoRow, standIns := [], harness := (true, "a5975c1a1e2ecfaa9d2a9ef94dd6bdd8e18d90ae2b5023b1b0ff88f21175b0ed"), looks := true }, kinds := [], alts := [], laidByText := true, laidKinds := [.data, .data, .data, .data, .sentinel, .sentinel, .pinned], laidTests := true, laidLooks := .later }
def SeqsetHasUptoCardSaid : Prop := Claim7.holds Tryz.pinned (.plain (OpenSpec.upto seqsetHasSpec)) seqsetHasUptoCard

/-- THE SECOND FORM's CARD OF 'cubbyholelaw02.SeqsetJoins'. -/
def seqsetJoinsUptoCard : Claim7 := { stood := { row := seqsetJoinsUptoRow, standIns := [], harness := (true, "a5975c1a1e2ecfaa9d2a9ef94dd6bdd8e18d90ae2b5023b1b0ff88f21175b0ed"), looks := true }, kinds := [], alts := [], laidByText := true, laidKinds := [.data, .data, .data, .data, .sentinel, .sentinel, .pinned], laidTests := true, laidLooks := .later }
def SeqsetJoinsUptoCardSaid : Prop := Claim7.holds Tryz.pinned (.plain (OpenSpec.upto seqsetJoinsSpec)) seqsetJoinsUptoCard
end Rows
end Go.Proofs.YtpcffnhbodjpbaaGreatDoor
