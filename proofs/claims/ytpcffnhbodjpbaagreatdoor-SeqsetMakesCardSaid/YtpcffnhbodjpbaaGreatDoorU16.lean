/- A slice of 16-bit numbers that is read. -/
import Derived.Test.YtpcffnhbodjpbaaGreatDoorBase
set_option linter.unusedVariables false
set_option linter.unusedSimpArgs false
namespace Go.Proofs.YtpcffnhbodjpbaaGreatDoor
open Go Go.RowKit

def U16 (W : World) (B : Nat) (v : Value) (l : List Nat) : Prop :=
  ∃ A cap, v = .slice A l.length cap ∧ (0 < l.length → ∃ b o, A = some ⟨b, o, none⟩ ∧ b < B ∧ ∀ j x, l[j]? = some x → W.cell? ⟨b, o + j, none⟩ = some (.int .u16 (x : Nat)))
end Go.Proofs.YtpcffnhbodjpbaaGreatDoor
