/- What the statements' rows list, as the walks take it: the library's variables that the code reads. -/
import Derived.Test.YtpcffnhbodjpbaaGreatDoorProg
import Derived.Test.YtpcffnhbodjpbaaGreatDoorBase
import Derived.Lib.SmallJoins
import Derived.Lib.LaidTab
import Derived.Lib.ItoaNum
set_option linter.unusedVariables false
set_option linter.unusedSimpArgs false
namespace Go.Proofs.YtpcffnhbodjpbaaGreatDoor
open Go.RowKit

theorem cell_stays {w w' : World} {a : Addr} {v : Value} (h : w.cell? a = some v) (hb : Below w.heap.size w w') : w'.cell? a = some v := by
  have hlt : a.block < w.heap.size := by
    by_cases hl : a.block < w.heap.size
    · exact hl
    · exfalso
      unfold World.cell? at h
      rw [Array.getElem?_eq_none (by omega)] at h
      cases h
  rw [hb.cell hlt]; exact h

/-- The variables of strconv. -/
structure Std (w : World) : Prop where
  tab : Lib.TabIs Tryz.prog w "internal/strconv.uint64pow10" .u64 Lib.pow10Tab
  syn : ∃ t p, w.var? Tryz.prog "strconv.ErrSyntax" = some #[.iface t p]
  rng : ∃ t p, w.var? Tryz.prog "strconv.ErrRange" = some #[.iface t p]
theorem gTab : Tryz.prog.globalNamed "internal/strconv.uint64pow10" = some 1 := by kernel_rfl
theorem gSyn : Tryz.prog.globalNamed "strconv.ErrSyntax" = some 4 := by kernel_rfl
theorem gRng : Tryz.prog.globalNamed "strconv.ErrRange" = some 5 := by kernel_rfl
theorem Std.below {w w' : World} (h : Std w) (hb : Below w.heap.size w w') : Std w' := {
  tab := Go.Joins.tab_stays gTab h.tab hb (Nat.le_refl _)
  syn := let ⟨t, p, e⟩ := h.syn; ⟨t, p, Go.Joins.var_stays gSyn e hb (Nat.le_refl _)⟩
  rng := let ⟨t, p, e⟩ := h.rng; ⟨t, p, Go.Joins.var_stays gRng e hb (Nat.le_refl _)⟩
}

end Go.Proofs.YtpcffnhbodjpbaaGreatDoor
