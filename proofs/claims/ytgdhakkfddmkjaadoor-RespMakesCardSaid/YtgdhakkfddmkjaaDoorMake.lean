/- The walks of resp.Count and resp.Reply. -/
import Derived.Test.YtgdhakkfddmkjaaDoorJ11
import Derived.Test.YtgdhakkfddmkjaaDoorJ6
set_option linter.unusedVariables false
set_option linter.unusedSimpArgs false
namespace Go.Proofs.YtgdhakkfddmkjaaDoor
open Go.RowKit

def cntA (k n : Int) : Array Value := #[.int .i64 k, .int .u32 n, .string ⟨#[]⟩, .int .i64 0, .string ⟨#[]⟩, .int .i64 0, .int .u8 0, .int .u32 0, .int .u32 0, .slice none 0 0]
def repA (k : Int) (tg tx : ByteArray) : Array Value := #[.int .i64 9, .int .u32 0, .string tg, .int .i64 k, .string tx, .int .i64 0, .int .u8 0, .int .u32 0, .int .u32 0, .slice none 0 0]

set_option maxRecDepth 100000 in
set_option maxHeartbeats 800000 in
theorem count_any (k n : Int) (w : World) (hn : 0 ≤ n) (hn2 : n < 4294967296) :
    Calls Tryd.prog 20 #[.int .i64 k, .int .i64 n] w fun e w' => e = .returned (.agg (cntA k n)) ∧ Below w.heap.size w w' := by
  have hw : IntKind.u32.wrap n = n := by
    show n % 4294967296 = n
    omega
  clear hn hn2
  go_enter Tryd.func20, Tryd.ntmps20
  go_wp2_with fail
  refine bodyPost_ret (v := .agg (cntA k n)) (results_ten1 (by rfl) (by rfl) (Blk.made _ _ _)) rfl ⟨rfl, (Below.refl _ _).alloc (Nat.le_refl _) _⟩

set_option maxRecDepth 100000 in
set_option maxHeartbeats 800000 in
theorem reply_any (k : Int) (tg tx : ByteArray) (w : World) :
    Calls Tryd.prog 21 #[.string tg, .int .i64 k, .string tx] w fun e w' => e = .returned (.agg (repA k tg tx)) ∧ Below w.heap.size w w' := by
  go_enter Tryd.func21, Tryd.ntmps21
  go_wp2_with fail
  refine bodyPost_ret (v := .agg (repA k tg tx)) (results_ten1 (by rfl) (by rfl) (Blk.made _ _ _)) rfl ⟨rfl, (Below.refl _ _).alloc (Nat.le_refl _) _⟩
end Go.Proofs.YtgdhakkfddmkjaaDoor
