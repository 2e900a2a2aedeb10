/- The law RespMakes at all its arguments. -/
import Derived.Test.YtgdhakkfddmkjaaDoorLawResp4
set_option linter.unusedVariables false
set_option linter.unusedSimpArgs false
namespace Go.Proofs.YtgdhakkfddmkjaaDoor
open Go Go.RowKit

theorem respMakes_walk (k : Int) (n : Nat) (tg tx : ByteArray) (w : World) (hn : n < 4294967296) (ht : tg.size ≤ maxLen) (hx : tx.size ≤ maxLen) (hS : Std w) (hA : StdA w) :
    Calls Tryd.prog 6 #[.int .i64 k, .int .u32 n, .agg #[.string tg, .string tx]] w fun e w' => e = .returned (.bool true) ∧ Below w.heap.size w w' :=
  makes_core k n tg tx w (by omega) (by omega) (by unfold maxLen at ht; omega) (by unfold maxLen at hx; omega) (fun W hW => alive09_walk W (hS.below hW) (hA.below hW))
end Go.Proofs.YtgdhakkfddmkjaaDoor
