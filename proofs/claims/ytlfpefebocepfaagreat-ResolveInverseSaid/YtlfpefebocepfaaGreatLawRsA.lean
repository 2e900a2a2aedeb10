/- ResolveSets and ResolveStar: the law's own walk. -/
import Derived.Test.YtlfpefebocepfaaGreatAlv18
import Derived.Test.YtlfpefebocepfaaGreatRefS
set_option linter.unusedVariables false
set_option linter.unusedSimpArgs false
namespace Go.Proofs.YtlfpefebocepfaaGreat
open Go Go.RowKit Go.Shelf Go.Lib Go.Sort

set_option maxHeartbeats 400000 in
theorem rnew_any (us : List Int) (v : Value) (w : World) (hU : U32 w w.heap.size v us) (hl : us.length ≤ 1000000) :
    Calls Tryz.prog 7 #[v] w fun e w' => ∃ v', e = .returned v' ∧ B32 w' w.heap.size v' (srtU us) ∧ Below w.heap.size w w' := by
  have HS := Lib.hid (ref_sorted us v w hU hl)
  clear hU
  go_enter Tryz.func7, Tryz.ntmps7
  go_wp2_with fail
  refine HS.out.mono ?_
  rintro e w1 ⟨v1, rfl, h1, h2⟩
  have H1 := Lib.hid (And.intro h1 h2)
  clear h1 h2
  go_wp2_with fail
  go_ret
  exact ⟨v1, rfl, H1.out⟩
theorem i64_map (ns : List Nat) : ns.map i64N = (ns.map fun n : Nat => (n : Int)).map (Value.int .i64) := by
  rw [List.map_map]; rfl
theorem below_chain {w a b : World} (h : Below w.heap.size w a) (k : Below a.heap.size a b) : Below w.heap.size w b := h.trans (k.mono h.size)

end Go.Proofs.YtlfpefebocepfaaGreat
