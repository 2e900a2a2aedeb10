/-
  DERIVED. GIVEN WITH THE SEED: THE CARDS: each row of YtponmnabbieafaaDoorRows.lean that lists a variable, with what it lists TIED to the program's text (the seventh form; the later family's looks); each row that meets fmt, with fmt's text TOLD by the authors' own Lean function (tested against real Go, not proved from fmt's source: count such statements apart). THE CARD IS WHAT COUNTS. Prove the row's statement (the work); the ties are given (YtponmnabbieafaaDoorTie.lean); close each card by the builder's one call (the guide's Derived/Test/ToyasCard.lean, 'card_holds'). Laid BY PROGRAM, IN A SANDBOX (cutbox-door.mjs). By AI agents, Wed Nov 11 2026. No macro, syntax, notation, axiom, sorry.
-/
import Derived.Test.YtponmnabbieafaaDoorRows
import GoSem.ClaimSeven
namespace Go.Proofs.YtponmnabbieafaaDoor
namespace Rows

/-- THE TIED CARD OF 'cubbyholelaw17.ViewFollows'. -/
def viewFollowsCard : Claim7 := { stood := { row := viewFollowsRow, standIns := [], harness := (true, "8916225a3caa0913c4beffec6cc846649fa7221ba8516bc29daab1f07fa903e8"), looks := false }, kinds := [], alts := [], laidByText := true, laidKinds := [.data, .data, .data, .listed, .data], laidTests := true, laidLooks := .later }
def ViewFollowsCardSaid : Prop := Claim7.holds Tryd.pinned (.plain (OpenSpec.ofChange viewFollowsSpec)) viewFollowsCard

/-- THE TIED CARD OF 'cubbyholelaw17.ViewRules'. -/
def viewRulesCard : Claim7 := { stood := { row := viewRulesRow, standIns := [], harness := (true, "8916225a3caa0913c4beffec6cc846649fa7221ba8516bc29daab1f07fa903e8"), looks := false }, kinds := [], alts := [], laidByText := true, laidKinds := [.data, .data, .data, .listed, .data], laidTests := true, laidLooks := .later }
def ViewRulesCardSaid : Prop := Claim7.holds Tryd.pinned (.plain (OpenSpec.ofChange viewRulesSpec)) viewRulesCard

/-- THE TIED CARD OF 'cubbyholelaw17.ViewPlaces'. -/
def viewPlacesCard : Claim7 := { stood := { row := viewPlacesRow, standIns := [], harness := (true, "8916225a3caa0913c4beffec6cc846649fa7221ba8516bc29daab1f07fa903e8"), looks := false }, kinds := [], alts := [], laidByText := true, laidKinds := [.data, .data, .data, .listed, .data], laidTests := true, laidLooks := .later }
def ViewPlacesCardSaid : Prop := Claim7.holds Tryd.pinned (.plain (OpenSpec.ofChange viewPlacesSpec)) viewPlacesCard

/-- THE SECOND FORM's CARD OF 'cubbyholelaw17.ViewFollows'. -/
def viewFollowsUptoCard : Claim7 := { stood := { row := viewFollowsUptoRow, standIns := [], harness := (true, "8916225a3caa0913c4beffec6cc846649fa7221ba8516bc29daab1f07fa903e8"), looks := false }, kinds := [], alts := [], laidByText := true, laidKinds := [.data, .data, .data, .listed, .data], laidTests := true, laidLooks := .later }
def ViewFollowsUptoCardSaid : Prop := Claim7.holds Tryd.pinned (.plain (OpenSpec.upto viewFollowsSpec)) viewFollowsUptoCard

/-- THE SECOND FORM's CARD OF 'cubbyholelaw17.ViewRules'. -/
def viewRulesUptoCard : Claim7 := { stood := { row := viewRulesUptoRow, standIns := [], harness := (true, "8916225a3caa0913c4beffec6cc846649fa7221ba8516bc29daab1f07fa903e8"), looks := false }, kinds := [], alts := [], laidByText := true, laidKinds := [.data, .data, .data, .listed, .data], laidTests := true, laidLooks := .later }
def ViewRulesUptoCardSaid : Prop := Claim7.holds Tryd.pinned (.plain (OpenSpec.upto viewRulesSpec)) viewRulesUptoCard

/-- THE SECOND FORM's CARD OF 'cubbyholelaw17.ViewPlaces'. -/
def viewPlacesUptoCard : Claim7 := { stood := { row := viewPlacesUptoRow, standIns := [], harness := (true, "8916225a3caa0913c4beffec6cc846649fa7221ba8516bc29daab1f07fa903e8"), looks := false }, kinds := [], alts := [], laidByText := true, laidKinds := [.data, .data, .data, .listed, .data], laidTests := true, laidLooks := .later }
def ViewPlacesUptoCardSaid : Prop := Claim7.holds Tryd.pinned (.plain (OpenSpec.upto viewPlacesSpec)) viewPlacesUptoCard
end Rows
end Go.Proofs.YtponmnabbieafaaDoor
