/- What the statements' rows list, as the walks take it: the library's variables that the code reads. -/
import Derived.Test.YtbbfajjbpalfeaaDoorProg
import Derived.Test.YtbbfajjbpalfeaaDoorBase
import Derived.Lib.SmallJoins
import Derived.Lib.LaidTab
import Derived.Lib.Space
namespace Go.Proofs.YtbbfajjbpalfeaaDoor
open Go.RowKit

theorem cell_stays {w w' : World} {a : Addr} {v : Value} (h : w.cell? a = some v) (hb : Below w.heap.size w w') : w'.cell? a = some v := by
  have hlt : a.block < w.heap.size := by
    by_cases hl : a.block < w.heap.size
    · exact hl
    · exfalso
      unfold World.cell? at h
      rw [Array.getElem?_eq_none (by omega)] at h
      cases h
  rw [hb.cell hlt]; exact h


/-- The variables of strings. -/
structure StdA (w : World) : Prop where
  asc : Lib.TabIs Tryd.prog w "strings.asciiSpace" .u8 Lib.asciiSpaceTab
  mx : ∃ m, w.cell? ⟨2, 0, none⟩ = some (.int .i64 m)
theorem gAsc : Tryd.prog.globalNamed "strings.asciiSpace" = some 0 := by kernel_rfl
theorem StdA.below {w w' : World} (h : StdA w) (hb : Below w.heap.size w w') : StdA w' := {
  asc := Go.Joins.tab_stays gAsc h.asc hb (Nat.le_refl _)
  mx := let ⟨m, e⟩ := h.mx; ⟨m, cell_stays e hb⟩
}
end Go.Proofs.YtbbfajjbpalfeaaDoor
