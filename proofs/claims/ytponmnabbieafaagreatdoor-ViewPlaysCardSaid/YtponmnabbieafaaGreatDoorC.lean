/- The walks of package char: Upper and Same, with their references. -/
import Derived.Test.YtponmnabbieafaaGreatDoorB
import Derived.Lib.ConvBytes
import Derived.Lib.AtoiErrMem
set_option linter.unusedVariables false
set_option linter.unusedSimpArgs false
namespace Go.Proofs.YtponmnabbieafaaGreatDoor
open Go.RowKit

/-- From cell 0 on, block B holds the bytes l, and they may be written. -/
def BytesAt (w : World) (B : Nat) (l : List UInt8) : Prop :=
  ∀ j (h : j < l.length), w.cell? ⟨B, j, none⟩ = some (.int .u8 (l[j].toNat : Int)) ∧ w.frozen? ⟨B, j, none⟩ = false
section
variable {w w' : World} {B : Nat} {l : List UInt8}
theorem BytesAt.drew (h : BytesAt w B l) : BytesAt w.drew B l := h
theorem BytesAt.past (h : BytesAt w B l) (hB : B < w.heap.size) (o : Obj) : BytesAt (w.alloc o) B l := fun j hj => by
  have hb := (Below.refl w.heap.size w).alloc (Nat.le_refl _) o
  exact ⟨(hb.cell (p := ⟨B, j, none⟩) hB).trans (h j hj).1, (hb.frozen (p := ⟨B, j, none⟩) hB).trans (h j hj).2⟩
theorem BytesAt.below {C : Nat} (h : BytesAt w B l) (hb : Below C w w') (hB : B < C) : BytesAt w' B l := fun j hj =>
  ⟨(hb.cell (p := ⟨B, j, none⟩) hB).trans (h j hj).1, (hb.frozen (p := ⟨B, j, none⟩) hB).trans (h j hj).2⟩
theorem BytesAt.put (h : BytesAt w B l) (k : Nat) (hk : k < l.length) (u : UInt8) : BytesAt (w.setCell ⟨B, k, none⟩ (.int .u8 (u.toNat : Int))) B (l.set k u) := fun j hj => by
  have hj' : j < l.length := by simpa using hj
  refine ⟨?_, ?_⟩
  · by_cases e : k = j
    · subst e
      rw [World.cell?_setCell_same _ _ _ (h k hk).1]; simp
    · rw [World.cell?_setCell_other _ _ _ _ (by simp [e]), (h j hj').1]
      simp [List.getElem_set, e]
  · rw [World.frozen?_setCell]; exact (h j hj').2
end

def upB (b : UInt8) : UInt8 := if 97 ≤ b.toNat ∧ b.toNat ≤ 122 then b - 32 else b

theorem up_step (l : List UInt8) (k : Nat) (hk : k < l.length) : ((l.take k).map upB ++ l.drop k).set k (upB l[k]) = (l.take (k + 1)).map upB ++ l.drop (k + 1) := by
  rw [List.set_append_right _ _ (by simp; omega)]
  have e : k - ((l.take k).map upB).length = 0 := by simp; omega
  rw [e, List.drop_eq_getElem_cons hk, List.set_cons_zero, List.take_succ_eq_append_getElem hk, List.map_append]
  simp only [List.map_cons, List.map_nil, List.append_assoc, List.cons_append, List.nil_append]

theorem bytesAt_conv (w : World) (e : TypeId) (s : ByteArray) : BytesAt (Lib.bytesWorld w e s) w.heap.size s.data.toList := fun j hj => by
  have hj' : j < s.size := by simpa using hj
  refine ⟨?_, ?_⟩
  · rw [Lib.bytesWorld_cell w e s j hj', List.getD_eq_getElem?_getD, List.getElem?_eq_getElem hj]; rfl
  · have := Lib.bytesWorld_at_new w e s
    simp [World.frozen?, this, Lib.bytesCells]
    omega

def upS (s : ByteArray) : ByteArray := ⟨(s.data.toList.map upB).toArray⟩
theorem upS_size (s : ByteArray) : (upS s).size = s.size := by
  show (s.data.toList.map upB).toArray.size = _
  rw [List.size_toArray, List.length_map, Array.length_toList]; rfl
/-- Go's == on strings, as the walk spells it. -/
def eqS (x y : ByteArray) : Bool := x.toList == y.toList
theorem eqS_iff (x y : ByteArray) : eqS x y = true ↔ x = y := by
  unfold eqS
  rw [beq_iff_eq, ByteArray.toList_eq, ByteArray.toList_eq]
  exact ⟨fun h => by cases x; cases y; congr; exact Array.toList_inj.1 h, fun h => by rw [h]⟩

end Go.Proofs.YtponmnabbieafaaGreatDoor
