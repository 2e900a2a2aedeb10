/-
  DERIVED. GIVEN WITH THE SEED: THE CARDS: each row of YthoccgkkgnlbpaaDoorRows.lean that lists a variable, with what it lists TIED to the program's text (the seventh form; the later family's looks); each row that meets fmt, with fmt's text TOLD by the authors' own Lean function (tested against real Go, not proved from fmt's source: count such statements apart). THE CARD IS WHAT COUNTS. Prove the row's statement (the work); the ties are given (YthoccgkkgnlbpaaDoorTie.lean); close each card by the builder's one call (the guide's Derived/Test/ToyasCard.lean, 'card_holds'). Laid BY PROGRAM, IN A SANDBOX (cutbox-door.mjs). By AI agents, Wed Nov 11 2026. No macro, syntax, notation, axiom, sorry.
-/
import Derived.Test.YthoccgkkgnlbpaaDoorRows
import GoSem.ClaimSeven
namespace Go.Proofs.YthoccgkkgnlbpaaDoor
namespace Rows

/-- THE TIED CARD OF 'cubbyholelaw04.QuoteAnnounces'. -/
def quoteAnnouncesCard : Claim7 := { stood := { row := quoteAnnouncesRow, standIns := [], harness := (true, "0f3a3397f4f36ddc49f678ce79a52b1cf0bdceebcb6457cd872679ca294cfa5d"), looks := true }, kinds := [], alts := [], laidByText := true, laidKinds := [.data, .data, .data, .sentinel, .sentinel], laidTests := true, laidLooks := .later }
def QuoteAnnouncesCardSaid : Prop := Claim7.holds Tryd.pinned (.plain (OpenSpec.ofChange quoteAnnouncesSpec)) quoteAnnouncesCard

/-- THE TIED CARD OF 'cubbyholelaw04.QuoteForms'. -/
def quoteFormsCard : Claim7 := { stood := { row := quoteFormsRow, standIns := [], harness := (true, "0f3a3397f4f36ddc49f678ce79a52b1cf0bdceebcb6457cd872679ca294cfa5d"), looks := true }, kinds := [], alts := [], laidByText := true, laidKinds := [.data, .data, .data, .sentinel, .sentinel], laidTests := true, laidLooks := .later }
def QuoteFormsCardSaid : Prop := Claim7.holds Tryd.pinned (.plain (OpenSpec.ofChange quoteFormsSpec)) quoteFormsCard

/-- THE TIED CARD OF 'cubbyholelaw04.QuoteAnnounced'. -/
def quoteAnnouncedCard : Claim7 := { stood := { row := quoteAnnouncedRow, standIns := [], harness := (true, "0f3a3397f4f36ddc49f678ce79a52b1cf0bdceebcb6457cd872679ca294cfa5d"), looks := true }, kinds := [], alts := [], laidByText := true, laidKinds := [.data, .data, .data, .sentinel, .sentinel], laidTests := true, laidLooks := .later }
def QuoteAnnouncedCardSaid : Prop := Claim7.holds Tryd.pinned (.plain (OpenSpec.ofChange quoteAnnouncedSpec)) quoteAnnouncedCard

/-- THE TIED CARD OF 'cubbyholelaw04.QuoteScans'. -/
def quoteScansCard : Claim7 := { stood := { row := quoteScansRow, standIns := [], harness := (true, "0f3a3397f4f36ddc49f678ce79a52b1cf0bdceebcb6457cd872679ca294cfa5d"), looks := true }, kinds := [], alts := [], laidByText := true, laidKinds := [.data, .data, .data, .sentinel, .sentinel], laidTests := true, laidLooks := .later }
def QuoteScansCardSaid : Prop := Claim7.holds Tryd.pinned (.plain (OpenSpec.ofChange quoteScansSpec)) quoteScansCard

/-- THE TIED CARD OF 'cubbyholelaw04.QuoteKeeps'. -/
def quoteKeepsCard : Claim7 := { stood := { row := quoteKeepsRow, standIns := [], harness := (true, "0f3a3397f4f36ddc49f678ce79a52b1cf0bdceebcb6457cd872679ca294cfa5d"), looks := true }, kinds := [], alts := [], laidByText := true, laidKinds := [.data, .data, .data, .sentinel, .sentinel], laidTests := true, laidLooks := .later }
def QuoteKeepsCardSaid : Prop := Claim7.holds Tryd.pinned (.plain (OpenSpec.ofChange quoteKeepsSpec)) quoteKeepsCard

/-- THE TIED CARD OF 'cubbyholelaw04.QuoteInverse'. -/
def quoteInverseCard : Claim7 := { stood := { row := quoteInverseRow, standIns := [], harness := (true, "0f3a3397f4f36ddc49f678ce79a52b1cf0bdceebcb6457cd872679ca294cfa5d"), looks := true }, kinds := [], alts := [], laidByText := true, laidKinds := [.data, .data, .data, .sentinel, .sentinel], laidTests := true, laidLooks := .later }
def QuoteInverseCardSaid : Prop := Claim7.holds Tryd.pinned (.plain (OpenSpec.ofChange quoteInverseSpec)) quoteInverseCard

/-- THE SECOND FORM's CARD OF 'cubbyholelaw04.QuoteAnnounces'. -/
def quoteAnnouncesUptoCard : Claim7 := { stood := { row := quoteAnnouncesUptoRow, standIns := [], harness := (true, "0f3a3397f4f36ddc49f678ce79a52b1cf0bdceebcb6457cd872679ca294cfa5d"), looks := true }, kinds := [], alts := [], laidByText := true, laidKinds := [.data, .data, .data, .sentinel, .sentinel], laidTests := true, laidLooks := .later }
def QuoteAnnouncesUptoCardSaid : Prop := Claim7.holds Tryd.pinned (.plain (OpenSpec.upto quoteAnnouncesSpec)) quoteAnnouncesUptoCard

/-- THE SECOND FORM's CARD OF 'cubbyholelaw04.QuoteForms'. -/
def quoteFormsUptoCard : Claim7 := { stood := { row := quoteFormsUptoRow, standIns := [], harness := (true, "0f3a3397f4f36ddc49f678ce79a52b1cf0bdceebcb6457cd872679ca294cfa5d"), looks := true }, kinds := [], alts := [], laidByText := true, laidKinds := [.data, .data, .data, .sentinel, .sentinel], laidTests := true, laidLooks := .later }
def QuoteFormsUptoCardSaid : Prop := Claim7.holds Tryd.pinned (.plain (OpenSpec.upto quoteFormsSpec)) quoteFormsUptoCard

/-- THE SECOND FORM's CARD OF 'cubbyholelaw04.QuoteAnnounced'. -/
def quoteAnnouncedUptoCard : Claim7 := { stood := { row := quoteAnnouncedUptoRow, standIns := [], harness := (true, "0f3a3397f4f36ddc49f678ce79a52b1cf0bdceebcb6457cd872679ca294cfa5d"), looks := true }, kinds := [], alts := [], laidByText := true, laidKinds := [.data, .data, .data, .sentinel, .sentinel], laidTests := true, laidLooks := .later }
def QuoteAnnouncedUptoCardSaid : Prop := Claim7.holds Tryd.pinned (.plain (OpenSpec.upto quoteAnnouncedSpec)) quoteAnnouncedUptoCard

/-- THE SECOND FORM's CARD OF 'cubbyholelaw04.QuoteScans'. -/
def quoteScansUptoCard : Claim7 := { stood := { row := quoteScansUptoRow, standIns := [], harness := (true, "0f3a3397f4f36ddc49f678ce79a52b1cf0bdceebcb6457cd872679ca294cfa5d"), looks := true }, kinds := [], alts := [], laidByText := true, laidKinds := [.data, .data, .data, .sentinel, .sentinel], laidTests := true, laidLooks := .later }
def QuoteScansUptoCardSaid : Prop := Claim7.holds Tryd.pinned (.plain (OpenSpec.upto quoteScansSpec)) quoteScansUptoCard

/-- THE SECOND FORM's CARD OF 'cubbyholelaw04.QuoteKeeps'. -/
def quoteKeepsUptoCard : Claim7 := { stood := { row := quoteKeepsUptoRow, standIns := [], harness := (true, "0f3a3397f4f36ddc49f678ce79a52b1cf0bdceebcb6457cd872679ca294cfa5d"), looks := true }, kinds := [], alts := [], laidByText := true, laidKinds := [.data, .data, .data, .sentinel, .sentinel], laidTests := true, laidLooks := .later }
def QuoteKeepsUptoCardSaid : Prop := Claim7.holds Tryd.pinned (.plain (OpenSpec.upto quoteKeepsSpec)) quoteKeepsUptoCard

/-- THE SECOND FORM's CARD OF 'cubbyholelaw04.QuoteInverse'. -/
def quoteInverseUptoCard : Claim7 := { stood := { row := quoteInverseUptoRow, standIns := [], harness := (true, "0f3a3397f4f36ddc49f678ce79a52b1cf0bdceebcb6457cd872679ca294cfa5d"), looks := true }, kinds := [], alts := [], laidByText := true, laidKinds := [.data, .data, .data, .sentinel, .sentinel], laidTests := true, laidLooks := .later }
def QuoteInverseUptoCardSaid : Prop := Claim7.holds Tryd.pinned (.plain (OpenSpec.upto quoteInverseSpec)) quoteInverseUptoCard
end Rows
end Go.Proofs.YthoccgkkgnlbpaaDoor
