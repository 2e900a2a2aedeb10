/- strings.Fields at an ASCII string. -/
import Derived.Test.YtkifhgnoadmfkaaDoorJ3
import Derived.Test.YtkifhgnoadmfkaaDoorJ0
import Derived.Test.YtkifhgnoadmfkaaDoorShelf
set_option linter.unusedVariables false
set_option linter.unusedSimpArgs false
namespace Go.Proofs.YtkifhgnoadmfkaaDoor
open Go.RowKit

def strsV (l : List (List UInt8)) : Array Value := (l.map fun x => Value.string (ofL x)).toArray
theorem strsV_at (l : List (List UInt8)) (k : Nat) (h : k < l.length) : (strsV l)[k]? = some (.string (ofL l[k])) := by simp [strsV, h]
/-- strings.Fields at an ASCII string. -/
theorem fields_at (s : ByteArray) (l : List (List UInt8)) (w : World) (hS : StdA w) (hs : s.size < 4294967281) (ha : s.data.toList.all (fun b => b.toNat < 128) = true) (hl : Lib.fields s.data.toList = l) :
    Calls Tryd.prog 34 #[.string s] w fun e w' => e = .returned (.slice (some ⟨w.heap.size, 0, none⟩) l.length l.length) ∧ Blk w' w.heap.size 9 (strsV l) ∧ Below w.heap.size w w' := by
  subst hl
  refine (Tryd.strings_Fields_laid s w hs (fun j b hb => ?_) hS.asc).mono ?_
  · rw [List.all_eq_true] at ha
    simpa using ha b (List.mem_of_getElem? hb)
  · rintro e w' ⟨rfl, rfl⟩
    exact ⟨rfl, Blk.made _ _ _, (Below.refl _ _).alloc (Nat.le_refl _) _⟩
end Go.Proofs.YtkifhgnoadmfkaaDoor
