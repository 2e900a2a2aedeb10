/-
  DERIVED. GIVEN WITH THE SEED: THE CARDS: each row of YtgdhakkfddmkjaaDoorRows.lean that lists a variable, with what it lists TIED to the program's text (the seventh form; the later family's looks); each row that meets fmt, with fmt's text TOLD by the authors' own Lean function (tested against real Go, not proved from fmt's source: count such statements apart). THE CARD IS WHAT COUNTS. Prove the row's statement (the work); the ties are given (YtgdhakkfddmkjaaDoorTie.lean); close each card by the builder's one call (the guide's Derived/Test/ToyasCard.lean, 'card_holds'). Laid BY PROGRAM, IN A SANDBOX (cutbox-door.mjs). By AI agents, Wed Nov 11 2026. No macro, syntax, notation, axiom, sorry.
-/
import Derived.Test.YtgdhakkfddmkjaaDoorRows
import GoSem.ClaimSeven
namespace Go.Proofs.YtgdhakkfddmkjaaDoor
namespace Rows

/-- THE TIED CARD OF 'cubbyholelaw09.RespPrints'. -/
def respPrintsCard : Claim7 := { stood := { row := respPrintsRow, standIns := [], harness := (true, "b38d45bba084e3ee8590906dab07422658a0bd3ff6f8c9e007deb42ac43b5b48"), looks := false }, kinds := [], alts := [], laidByText := true, laidKinds := [.data, .data, .data, .listed, .data], laidTests := true, laidLooks := .later }
def RespPrintsCardSaid : Prop := Claim7.holds Tryd.pinned (.plain (OpenSpec.ofChange respPrintsSpec)) respPrintsCard

/-- THE TIED CARD OF 'cubbyholelaw09.RespSame'. -/
def respSameCard : Claim7 := { stood := { row := respSameRow, standIns := [], harness := (true, "b38d45bba084e3ee8590906dab07422658a0bd3ff6f8c9e007deb42ac43b5b48"), looks := false }, kinds := [], alts := [], laidByText := true, laidKinds := [.data, .data, .data, .listed, .data], laidTests := true, laidLooks := .later }
def RespSameCardSaid : Prop := Claim7.holds Tryd.pinned (.plain (OpenSpec.ofChange respSameSpec)) respSameCard

/-- THE TIED CARD OF 'cubbyholelaw09.RespMessages'. -/
def respMessagesCard : Claim7 := { stood := { row := respMessagesRow, standIns := [], harness := (true, "b38d45bba084e3ee8590906dab07422658a0bd3ff6f8c9e007deb42ac43b5b48"), looks := false }, kinds := [], alts := [], laidByText := true, laidKinds := [.data, .data, .data, .listed, .data], laidTests := true, laidLooks := .later }
def RespMessagesCardSaid : Prop := Claim7.holds Tryd.pinned (.plain (OpenSpec.ofChange respMessagesSpec)) respMessagesCard

/-- THE TIED CARD OF 'cubbyholelaw09.RespMakes'. -/
def respMakesCard : Claim7 := { stood := { row := respMakesRow, standIns := [], harness := (true, "b38d45bba084e3ee8590906dab07422658a0bd3ff6f8c9e007deb42ac43b5b48"), looks := false }, kinds := [], alts := [], laidByText := true, laidKinds := [.data, .data, .data, .listed, .data], laidTests := true, laidLooks := .later }
def RespMakesCardSaid : Prop := Claim7.holds Tryd.pinned (.plain (OpenSpec.ofChange respMakesSpec)) respMakesCard

/-- THE TIED CARD OF 'cubbyholelaw09.RespEnds'. -/
def respEndsCard : Claim7 := { stood := { row := respEndsRow, standIns := [], harness := (true, "b38d45bba084e3ee8590906dab07422658a0bd3ff6f8c9e007deb42ac43b5b48"), looks := false }, kinds := [], alts := [], laidByText := true, laidKinds := [.data, .data, .data, .listed, .data], laidTests := true, laidLooks := .later }
def RespEndsCardSaid : Prop := Claim7.holds Tryd.pinned (.plain (OpenSpec.ofChange respEndsSpec)) respEndsCard

/-- THE TIED CARD OF 'cubbyholelaw09.RespAll'. -/
def respAllCard : Claim7 := { stood := { row := respAllRow, standIns := [], harness := (true, "b38d45bba084e3ee8590906dab07422658a0bd3ff6f8c9e007deb42ac43b5b48"), looks := false }, kinds := [], alts := [], laidByText := true, laidKinds := [.data, .data, .data, .listed, .data], laidTests := true, laidLooks := .later }
def RespAllCardSaid : Prop := Claim7.holds Tryd.pinned (.plain (OpenSpec.ofChange respAllSpec)) respAllCard

/-- THE SECOND FORM's CARD OF 'cubbyholelaw09.RespPrints'. -/
def respPrintsUptoCard : Claim7 := { stood := { row := respPrintsUptoRow, standIns := [], harness := (true, "b38d45bba084e3ee8590906dab07422658a0bd3ff6f8c9e007deb42ac43b5b48"), looks := false }, kinds := [], alts := [], laidByText := true, laidKinds := [.data, .data, .data, .listed, .data], laidTests := true, laidLooks := .later }
def RespPrintsUptoCardSaid : Prop := Claim7.holds Tryd.pinned (.plain (OpenSpec.upto respPrintsSpec)) respPrintsUptoCard

/-- THE SECOND FORM's CARD OF 'cubbyholelaw09.RespSame'. -/
def respSameUptoCard : Claim7 := { stood := { row := respSameUptoRow, standIns := [], harness := (true, "b38d45bba084e3ee8590906dab07422658a0bd3ff6f8c9e007deb42ac43b5b48"), looks := false }, kinds := [], alts := [], laidByText := true, laidKinds := [.data, .data, .data, .listed, .data], laidTests := true, laidLooks := .later }
def RespSameUptoCardSaid : Prop := Claim7.holds Tryd.pinned (.plain (OpenSpec.upto respSameSpec)) respSameUptoCard

/-- THE SECOND FORM's CARD OF 'cubbyholelaw09.RespMessages'. -/
def respMessagesUptoCard : Claim7 := { stood := { row := respMessagesUptoRow, standIns := [], harness := (true, "b38d45bba084e3ee8590906dab07422658a0bd3ff6f8c9e007deb42ac43b5b48"), looks := false }, kinds := [], alts := [], laidByText := true, laidKinds := [.data, .data, .data, .listed, .data], laidTests := true, laidLooks := .later }
def RespMessagesUptoCardSaid : Prop := Claim7.holds Tryd.pinned (.plain (OpenSpec.upto respMessagesSpec)) respMessagesUptoCard

/-- THE SECOND FORM's CARD OF 'cubbyholelaw09.RespMakes'. -/
def respMakesUptoCard : Claim7 := { stood := { row := respMakesUptoRow, standIns := [], harness := (true, "b38d45bba084e3ee8590906dab07422658a0bd3ff6f8c9e007deb42ac43b5b48"), looks := false }, kinds := [], alts := [], laidByText := true, laidKinds := [.data, .data, .data, .listed, .data], laidTests := true, laidLooks := .later }
def RespMakesUptoCardSaid : Prop := Claim7.holds Tryd.pinned (.plain (OpenSpec.upto respMakesSpec)) respMakesUptoCard

/-- THE SECOND FORM's CARD OF 'cubbyholelaw09.RespEnds'. -/
def respEndsUptoCard : Claim7 := { stood := { row := respEndsUptoRow, standIns := [], harness := (true, "b38d45bba084e3ee8590906dab07422658a0bd3ff6f8c9e007deb42ac43b5b48"), looks := false }, kinds := [], alts := [], laidByText := true, laidKinds := [.data, .data, .data, .listed, .data], laidTests := true, laidLooks := .later }
def RespEndsUptoCardSaid : Prop := Claim7.holds Tryd.pinned (.plain (OpenSpec.upto respEndsSpec)) respEndsUptoCard

/-- THE SECOND FORM's CARD OF 'cubbyholelaw09.RespAll'. -/
def respAllUptoCard : Claim7 := { stood := { row := respAllUptoRow, standIns := [], harness := (true, "b38d45bba084e3ee8590906dab07422658a0bd3ff6f8c9e007deb42ac43b5b48"), looks := false }, kinds := [], alts := [], laidByText := true, laidKinds := [.data, .data, .data, .listed, .data], laidTests := true, laidLooks := .later }
def RespAllUptoCardSaid : Prop := Claim7.holds Tryd.pinned (.plain (OpenSpec.upto respAllSpec)) respAllUptoCard
end Rows
end Go.Proofs.YtgdhakkfddmkjaaDoor
