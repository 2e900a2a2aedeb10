/-
  No cell of these rows narrows 'for every input' (looked for: loops, veiled, ifaces, maps, wideKeys, modest, calm, conditions, laid).
  DERIVED. THE GIVEN ROWS OF THIS SEAT. 4 by the template 'for every input the law returns true; each argument reads behind the call as it read before'; 0 by the template 'total and deterministic' (their statements: YtlfpefebocepfaaTotals.lean).
  GIVEN WITH THE SEED: the statements are not yours to turn. If you find one false, say at which input.
  Laid BY PROGRAM, IN A SANDBOX (cutbox-rows.mjs): the forced cells as the released guide's own fill.sh prints them over the translation 4864fe65ea156439… (all of the seat's roots in one cut). By AI agents, Wed Nov 11 2026. No macro, syntax, notation, axiom, sorry.
-/
import Derived.Test.YtlfpefebocepfaaChecked
import GoSem.Claim
import GoSem.ClaimJoined
import GoSem.ClaimMapViews
import Derived.JoinedTies
import Derived.KernelRfl
namespace Go.Proofs.Ytlfpefebocepfaa
/- THE CELL 'sum', in the pinned program and in every row, IS THE sha256 OF THE DUMP (.gsa) THAT YtlfpefebocepfaaProg.lean LOADS. Nothing in Lean hashes anything: it is a label: what it is worth is what the hold of that sum in a sandbox is worth. -/
noncomputable def Try.pinned : Pinned := { name := "ytlfpefebocepfaa", sum := "4864fe65ea15643958a3b9e0b5262322b995d51c36210f1d750ac8c5c23a228e", checked := Try.checked }
namespace Rows
def none {H : Type} : Left H := { results := [], args := [] }

/-- 'cubbyholelaw18.ResolveSets': WHATEVER THE INPUT: true; the input reads as it did. -/
def resolveSetsSpec : ChangeSpec := { name := "resolveSets", fn := fun _ => fun
  | [d1, d2] => { results := [.lit (.bool true)], args := [d1, d2] }
  | _ => none }
def resolveSetsRow : OpenClaim := { program := "ytlfpefebocepfaa", sum := "4864fe65ea15643958a3b9e0b5262322b995d51c36210f1d750ac8c5c23a228e", func := "cubbyhole/cubbyholelaw18.ResolveSets", spec := "resolveSets", unfollowed := true, recurses := true, apart := false }
def ResolveSetsSaid : Prop := resolveSetsRow.holds Try.pinned (OpenSpec.ofChange resolveSetsSpec)

/-- ITS FALSE NEIGHBOUR: 'it returns false'. Refute it at one input. -/
def resolveSetsWrong : ChangeSpec := { name := "resolveSets", fn := fun _ => fun
  | [d1, d2] => { results := [.lit (.bool false)], args := [d1, d2] }
  | _ => none }
def ResolveSetsWrongFalsely : Prop := resolveSetsRow.holds Try.pinned (OpenSpec.ofChange resolveSetsWrong)

/-- 'cubbyholelaw18.ResolveStar': WHATEVER THE INPUT: true; the input reads as it did. -/
def resolveStarSpec : ChangeSpec := { name := "resolveStar", fn := fun _ => fun
  | [d] => { results := [.lit (.bool true)], args := [d] }
  | _ => none }
def resolveStarRow : OpenClaim := { program := "ytlfpefebocepfaa", sum := "4864fe65ea15643958a3b9e0b5262322b995d51c36210f1d750ac8c5c23a228e", func := "cubbyhole/cubbyholelaw18.ResolveStar", spec := "resolveStar", unfollowed := true, recurses := true, apart := false }
def ResolveStarSaid : Prop := resolveStarRow.holds Try.pinned (OpenSpec.ofChange resolveStarSpec)

/-- ITS FALSE NEIGHBOUR: 'it returns false'. Refute it at one input. -/
def resolveStarWrong : ChangeSpec := { name := "resolveStar", fn := fun _ => fun
  | [d] => { results := [.lit (.bool false)], args := [d] }
  | _ => none }
def ResolveStarWrongFalsely : Prop := resolveStarRow.holds Try.pinned (OpenSpec.ofChange resolveStarWrong)

/-- 'cubbyholelaw18.ResolveJoins': WHATEVER THE INPUT: true; the input reads as it did. -/
def resolveJoinsSpec : ChangeSpec := { name := "resolveJoins", fn := fun _ => fun
  | [d1, d2, d3] => { results := [.lit (.bool true)], args := [d1, d2, d3] }
  | _ => none }
def resolveJoinsRow : OpenClaim := { program := "ytlfpefebocepfaa", sum := "4864fe65ea15643958a3b9e0b5262322b995d51c36210f1d750ac8c5c23a228e", func := "cubbyhole/cubbyholelaw18.ResolveJoins", spec := "resolveJoins", unfollowed := true, recurses := true, apart := false }
def ResolveJoinsSaid : Prop := resolveJoinsRow.holds Try.pinned (OpenSpec.ofChange resolveJoinsSpec)

/-- ITS FALSE NEIGHBOUR: 'it returns false'. Refute it at one input. -/
def resolveJoinsWrong : ChangeSpec := { name := "resolveJoins", fn := fun _ => fun
  | [d1, d2, d3] => { results := [.lit (.bool false)], args := [d1, d2, d3] }
  | _ => none }
def ResolveJoinsWrongFalsely : Prop := resolveJoinsRow.holds Try.pinned (OpenSpec.ofChange resolveJoinsWrong)

/-- 'cubbyholelaw18.ResolveNil': WHATEVER THE INPUT: true; the input reads as it did. -/
def resolveNilSpec : ChangeSpec := { name := "resolveNil", fn := fun _ => fun
  | [d1, d2] => { results := [.lit (.bool true)], args := [d1, d2] }
  | _ => none }
def resolveNilRow : OpenClaim := { program := "ytlfpefebocepfaa", sum := "4864fe65ea15643958a3b9e0b5262322b995d51c36210f1d750ac8c5c23a228e", func := "cubbyhole/cubbyholelaw18.ResolveNil", spec := "resolveNil", unfollowed := true, recurses := true, apart := false }
def ResolveNilSaid : Prop := resolveNilRow.holds Try.pinned (OpenSpec.ofChange resolveNilSpec)

/-- ITS FALSE NEIGHBOUR: 'it returns false'. Refute it at one input. -/
def resolveNilWrong : ChangeSpec := { name := "resolveNil", fn := fun _ => fun
  | [d1, d2] => { results := [.lit (.bool false)], args := [d1, d2] }
  | _ => none }
def ResolveNilWrongFalsely : Prop := resolveNilRow.holds Try.pinned (OpenSpec.ofChange resolveNilWrong)

/- THE SECOND FORM. 'bulk': how many values and letters a reading holds, each counted each time it is reached (what is shared counts as often as it is met; a slice's spare places count too). A statement '..UptoSaid' is the law's where the arguments, and the package variables that the reading takes, are together of bulk at most 1048576: NARROWER than '..Said'. Prove '..Said' where nothing that the law and all that it calls make is longer than what came in: it says more and counts as full. Else prove '..UptoSaid'. A law counts once. -/
mutual
def uptoBulk {H : Type} : DataW H → Nat
  | .lit (.string bytes) => bytes.length + 1
  | .lit _ => 1
  | .nil => 1
  | .ptr d => uptoBulk d + 1
  | .slice elems spare => uptoBulkAll elems + uptoBulkAll spare + 1
  | .agg parts => uptoBulkAll parts + 1
  | .iface _ d => uptoBulk d + 1
  | .map entries => uptoBulkEntries entries + 1
  | .held _ => 1
def uptoBulkAll {H : Type} : List (DataW H) → Nat
  | [] => 0
  | d :: r => uptoBulk d + uptoBulkAll r
def uptoBulkEntries {H : Type} : List (Lit × DataW H) → Nat
  | [] => 0
  | x :: r => uptoBulkEntry x + uptoBulkEntries r
def uptoBulkEntry {H : Type} : Lit × DataW H → Nat
  | (.string bytes, d) => bytes.length + uptoBulk d + 1
  | (_, d) => uptoBulk d + 1
 end
def uptoSmall : (H : Type) → List (DataW H) → Bool := fun _ ds => decide (uptoBulkAll ds ≤ 1048576)
def OpenSpec.upto (s : _root_.Go.ChangeSpec) : _root_.Go.OpenSpec := { _root_.Go.OpenSpec.ofChange s with cond := some uptoSmall }

/-- 'cubbyholelaw18.ResolveSets', WHERE WHAT IT READS IS OF BULK AT MOST 1048576: true; the input reads as it did. -/
def resolveSetsUptoRow : OpenClaim := { program := "ytlfpefebocepfaa", sum := "4864fe65ea15643958a3b9e0b5262322b995d51c36210f1d750ac8c5c23a228e", func := "cubbyhole/cubbyholelaw18.ResolveSets", spec := "resolveSets", unfollowed := true, recurses := true, apart := false, narrowed := true }
def ResolveSetsUptoSaid : Prop := resolveSetsUptoRow.holds Try.pinned (OpenSpec.upto resolveSetsSpec)

/-- 'cubbyholelaw18.ResolveStar', WHERE WHAT IT READS IS OF BULK AT MOST 1048576: true; the input reads as it did. -/
def resolveStarUptoRow : OpenClaim := { program := "ytlfpefebocepfaa", sum := "4864fe65ea15643958a3b9e0b5262322b995d51c36210f1d750ac8c5c23a228e", func := "cubbyhole/cubbyholelaw18.ResolveStar", spec := "resolveStar", unfollowed := true, recurses := true, apart := false, narrowed := true }
def ResolveStarUptoSaid : Prop := resolveStarUptoRow.holds Try.pinned (OpenSpec.upto resolveStarSpec)

/-- 'cubbyholelaw18.ResolveJoins', WHERE WHAT IT READS IS OF BULK AT MOST 1048576: true; the input reads as it did. -/
def resolveJoinsUptoRow : OpenClaim := { program := "ytlfpefebocepfaa", sum := "4864fe65ea15643958a3b9e0b5262322b995d51c36210f1d750ac8c5c23a228e", func := "cubbyhole/cubbyholelaw18.ResolveJoins", spec := "resolveJoins", unfollowed := true, recurses := true, apart := false, narrowed := true }
def ResolveJoinsUptoSaid : Prop := resolveJoinsUptoRow.holds Try.pinned (OpenSpec.upto resolveJoinsSpec)

/-- 'cubbyholelaw18.ResolveNil', WHERE WHAT IT READS IS OF BULK AT MOST 1048576: true; the input reads as it did. -/
def resolveNilUptoRow : OpenClaim := { program := "ytlfpefebocepfaa", sum := "4864fe65ea15643958a3b9e0b5262322b995d51c36210f1d750ac8c5c23a228e", func := "cubbyhole/cubbyholelaw18.ResolveNil", spec := "resolveNil", unfollowed := true, recurses := true, apart := false, narrowed := true }
def ResolveNilUptoSaid : Prop := resolveNilUptoRow.holds Try.pinned (OpenSpec.upto resolveNilSpec)

end Rows
end Go.Proofs.Ytlfpefebocepfaa
