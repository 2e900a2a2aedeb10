/-
  DERIVED. GIVEN WITH THE SEED: THE CARDS: each row of YtllboenffepcgaaDoorRows.lean that lists a variable, with what it lists TIED to the program's text (the seventh form; the later family's looks); each row that meets fmt, with fmt's text TOLD by the authors' own Lean function (tested against real Go, not proved from fmt's source: count such statements apart). THE CARD IS WHAT COUNTS. Prove the row's statement (the work); the ties are given (YtllboenffepcgaaDoorTie.lean); close each card by the builder's one call (the guide's Derived/Test/ToyasCard.lean, 'card_holds'). Laid BY PROGRAM, IN A SANDBOX (cutbox-door.mjs). By AI agents, Wed Nov 11 2026. No macro, syntax, notation, axiom, sorry.
-/
import Derived.Test.YtllboenffepcgaaDoorRows
import GoSem.ClaimSeven
namespace Go.Proofs.YtllboenffepcgaaDoor
namespace Rows

/-- THE TIED CARD OF 'cubbyholelaw05.FrameFeeds'. -/
def frameFeedsCard : Claim7 := { stood := { row := frameFeedsRow, standIns := [], harness := (true, "5e4c6bcd2393fc5a6362cf9fe6c65c7c3e29f9737f29a4780dac322066eff81a"), looks := true }, kinds := [], alts := [], laidByText := true, laidKinds := [.data, .data, .data, .sentinel, .sentinel], laidTests := true, laidLooks := .later }
def FrameFeedsCardSaid : Prop := Claim7.holds Tryd.pinned (.plain (OpenSpec.ofChange frameFeedsSpec)) frameFeedsCard

/-- THE TIED CARD OF 'cubbyholelaw05.FrameNil'. -/
def frameNilCard : Claim7 := { stood := { row := frameNilRow, standIns := [], harness := (true, "5e4c6bcd2393fc5a6362cf9fe6c65c7c3e29f9737f29a4780dac322066eff81a"), looks := true }, kinds := [], alts := [], laidByText := true, laidKinds := [.data, .data, .data, .sentinel, .sentinel], laidTests := true, laidLooks := .later }
def FrameNilCardSaid : Prop := Claim7.holds Tryd.pinned (.plain (OpenSpec.ofChange frameNilSpec)) frameNilCard

/-- THE TIED CARD OF 'cubbyholelaw05.FrameJoins'. -/
def frameJoinsCard : Claim7 := { stood := { row := frameJoinsRow, standIns := [], harness := (true, "5e4c6bcd2393fc5a6362cf9fe6c65c7c3e29f9737f29a4780dac322066eff81a"), looks := true }, kinds := [], alts := [], laidByText := true, laidKinds := [.data, .data, .data, .sentinel, .sentinel], laidTests := true, laidLooks := .later }
def FrameJoinsCardSaid : Prop := Claim7.holds Tryd.pinned (.plain (OpenSpec.ofChange frameJoinsSpec)) frameJoinsCard

/-- THE TIED CARD OF 'cubbyholelaw05.FrameLong'. -/
def frameLongCard : Claim7 := { stood := { row := frameLongRow, standIns := [], harness := (true, "5e4c6bcd2393fc5a6362cf9fe6c65c7c3e29f9737f29a4780dac322066eff81a"), looks := true }, kinds := [], alts := [], laidByText := true, laidKinds := [.data, .data, .data, .sentinel, .sentinel], laidTests := true, laidLooks := .later }
def FrameLongCardSaid : Prop := Claim7.holds Tryd.pinned (.plain (OpenSpec.ofChange frameLongSpec)) frameLongCard

/-- THE TIED CARD OF 'cubbyholelaw05.FrameBig'. -/
def frameBigCard : Claim7 := { stood := { row := frameBigRow, standIns := [], harness := (true, "5e4c6bcd2393fc5a6362cf9fe6c65c7c3e29f9737f29a4780dac322066eff81a"), looks := true }, kinds := [], alts := [], laidByText := true, laidKinds := [.data, .data, .data, .sentinel, .sentinel], laidTests := true, laidLooks := .later }
def FrameBigCardSaid : Prop := Claim7.holds Tryd.pinned (.plain (OpenSpec.ofChange frameBigSpec)) frameBigCard

/-- THE SECOND FORM's CARD OF 'cubbyholelaw05.FrameFeeds'. -/
def frameFeedsUptoCard : Claim7 := { stood := { row := frameFeedsUptoRow, standIns := [], harness := (true, "5e4c6bcd2393fc5a6362cf9fe6c65c7c3e29f9737f29a4780dac322066eff81a"), looks := true }, kinds := [], alts := [], laidByText := true, laidKinds := [.data, .data, .data, .sentinel, .sentinel], laidTests := true, laidLooks := .later }
def FrameFeedsUptoCardSaid : Prop := Claim7.holds Tryd.pinned (.plain (OpenSpec.upto frameFeedsSpec)) frameFeedsUptoCard

/-- THE SECOND FORM's CARD OF 'cubbyholelaw05.FrameNil'. -/
def frameNilUptoCard : Claim7 := { stood := { row := frameNilUptoRow, standIns := [], harness := (true, "5e4c6bcd2393fc5a6362cf9fe6c65c7c3e29f9737f29a4780dac322066eff81a"), looks := true }, kinds := [], alts := [], laidByText := true, laidKinds := [.data, .data, .data, .sentinel, .sentinel], laidTests := true, laidLooks := .later }
def FrameNilUptoCardSaid : Prop := Claim7.holds Tryd.pinned (.plain (OpenSpec.upto frameNilSpec)) frameNilUptoCard

/-- THE SECOND FORM's CARD OF 'cubbyholelaw05.FrameJoins'. -/
def frameJoinsUptoCard : Claim7 := { stood := { row := frameJoinsUptoRow, standIns := [], harness := (true, "5e4c6bcd2393fc5a6362cf9fe6c65c7c3e29f9737f29a4780dac322066eff81a"), looks := true }, kinds := [], alts := [], laidByText := true, laidKinds := [.data, .data, .data, .sentinel, .sentinel], laidTests := true, laidLooks := .later }
def FrameJoinsUptoCardSaid : Prop := Claim7.holds Tryd.pinned (.plain (OpenSpec.upto frameJoinsSpec)) frameJoinsUptoCard

/-- THE SECOND FORM's CARD OF 'cubbyholelaw05.FrameLong'. -/
def frameLongUptoCard : Claim7 := { stood := { row := frameLongUptoRow, standIns := [], harness := (true, "5e4c6bcd2393fc5a6362cf9fe6c65c7c3e29f9737f29a4780dac322066eff81a"), looks := true }, kinds := [], alts := [], laidByText := true, laidKinds := [.data, .data, .data, .sentinel, .sentinel], laidTests := true, laidLooks := .later }
def FrameLongUptoCardSaid : Prop := Claim7.holds Tryd.pinned (.plain (OpenSpec.upto frameLongSpec)) frameLongUptoCard

/-- THE SECOND FORM's CARD OF 'cubbyholelaw05.FrameBig'. -/
def frameBigUptoCard : Claim7 := { stood := { row := frameBigUptoRow, standIns := [], harness := (true, "5e4c6bcd2393fc5a6362cf9fe6c65c7c3e29f9737f29a4780dac322066eff81a"), looks := true }, kinds := [], alts := [], laidByText := true, laidKinds := [.data, .data, .data, .sentinel, .sentinel], laidTests := true, laidLooks := .later }
def FrameBigUptoCardSaid : Prop := Claim7.holds Tryd.pinned (.plain (OpenSpec.upto frameBigSpec)) frameBigUptoCard
end Rows
end Go.Proofs.YtllboenffepcgaaDoor
