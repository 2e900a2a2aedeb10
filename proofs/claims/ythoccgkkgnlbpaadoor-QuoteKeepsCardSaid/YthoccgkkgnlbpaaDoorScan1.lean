/- The walk of the scanner's method quoted. -/
import Derived.Test.YthoccgkkgnlbpaaDoorTake
import Derived.Test.YthoccgkkgnlbpaaDoorLit
import Derived.Test.YthoccgkkgnlbpaaDoorScanSpec
namespace Go.Proofs.YthoccgkkgnlbpaaDoor
open Go.RowKit

/-- The scanner's state: where it lies, its cursor, and what it has read. -/
def St (w0 w : World) (g : Nat) (P : Option Addr) (n c : Nat) (k : Int) (out : Value) (m : List UInt8) : Prop :=
  Blk w g 67 #[.slice P n c, .int .i64 k, out] ∧ Buf w (g + 1) 1 out m.length (Lib.byteCells m) ∧ Below g w0 w

section
variable {w0 w w' : World} {g : Nat} {P : Option Addr} {n c : Nat} {k k' : Int} {out : Value} {m : List UInt8}
theorem Buf.not_own {w : World} {g : Nat} {out : Value} {z : Nat} {xs : List Value} (h : Buf w (g + 1) 1 out z xs) : ∀ j, out.ownBlock = some j → g + 1 ≤ j := by
  intro j hj
  rcases h.2 with ⟨rfl, _⟩ | ⟨b, off, cap, rfl, hb, _⟩
  · simp [Value.ownBlock] at hj
  · simp only [Value.ownBlock, Option.some.injEq] at hj; omega
theorem St.take (h : St w0 w g P n c k out m) {i : Nat} (e : w' = (w.setCell ⟨g, 1, none⟩ (.int .i64 k')).drewN i) : St w0 w' g P n c k' out m := by
  subst e
  obtain ⟨h1, h2, h3⟩ := h
  refine ⟨(h1.put 1 (.int .i64 k')).drewN i, (h2.far (fun e => ?_) _).drewN i, YthoccgkkgnlbpaaDoor.Below.many (h3.setCell (p := ⟨g, 1, none⟩) (Nat.le_refl _) _) i⟩
  have := h2.not_own g e
  omega
theorem St.shape (h : St w0 w g P n c k out m) : ∃ p4 n4 c4, out = .slice p4 n4 c4 := by
  obtain ⟨p4, c4, e, _⟩ := h.2.1.bys
  exact ⟨p4, _, c4, e⟩
theorem St.drewN (h : St w0 w g P n c k out m) (i : Nat) : St w0 (w.drewN i) g P n c k out m := ⟨h.1.drewN i, h.2.1.drewN i, YthoccgkkgnlbpaaDoor.Below.many h.2.2 i⟩
theorem St.below (h : St w0 w g P n c k out m) (hb : Below w.heap.size w w') : St w0 w' g P n c k out m :=
  ⟨h.1.below hb h.1.lt, h.2.1.below hb (Nat.le_refl _), h.2.2.trans (hb.mono (Nat.le_of_lt h.1.lt))⟩
theorem St.app (h : St w0 w g P n c k out m) (y : UInt8) (hm : m.length ≤ 1048576) :
    ∃ v' w', (Builtin.append_ #[22, 22] 22 #[out, .slice (some ⟨w.heap.size, 0, none⟩) 1 1]).run Tryd.prog (w.alloc (.cells #[.int .u8 (y.toNat : Int)] 5)) = .ok v' w' ∧ St w0 (w'.setCell ⟨g, 2, none⟩ v') g P n c k v' (m ++ [y]) ∧
      w'.frozen? ⟨g, 2, none⟩ = false ∧ w'.cell? ⟨g, 2, none⟩ = some out := by
  obtain ⟨h1, h2, h3⟩ := h
  have hb0 : Below w.heap.size w (w.alloc (.cells #[.int .u8 (y.toNat : Int)] 5)) := (Below.refl _ _).alloc (Nat.le_refl _) _
  have hh := heap_alloc_new w (.cells #[.int .u8 (y.toNat : Int)] 5)
  obtain ⟨i0, hi, hz0, hz1, hz2⟩ := info_parts infoU8
  have hsrc : Src (w.alloc (.cells #[.int .u8 (y.toNat : Int)] 5)) 1 (some ⟨w.heap.size, 0, none⟩) 1 (Lib.byteCells [y]) :=
    ⟨rfl, Lib.byteCells_one [y], fun _ => ⟨_, rfl, fun j u hj => by
      have hj' : j < 1 := by have := (List.getElem?_eq_some_iff.1 hj).1; simpa [Lib.byteCells] using this
      obtain rfl : j = 0 := by omega
      rw [Go.WideShapes.add_plain]
      simp only [World.cell?, hh]
      exact hj⟩⟩
  have h2' := h2.below hb0 (Nat.le_refl _)
  have h1' := h1.below hb0 h1.lt
  obtain ⟨v', w', hrun, hbuf, hgr, hown⟩ := run_append_buf (P := Tryd.prog) _ 22 22 5 i0 (.int .u8 0) 1 1 Tryd.underlying22 hi hz0 hz1 hz2 rfl (by decide) (g + 1) out m.length _ h2' (some ⟨w.heap.size, 0, none⟩) 1 1 _ hsrc (by unfold maxLen; omega) (by omega) (by have := h1'.lt; omega)
  have hb1 : Blk w' g 67 #[.slice P n c, .int .i64 k, out] := by
    unfold Blk
    rw [hgr.block g h1'.lt (fun e => by have := h2'.not_own g e.symm; omega)]
    exact h1'
  rw [← byteCells_app] at hbuf
  have hB : Below g w0 w' := (h3.trans (hb0.mono (Nat.le_of_lt h1.lt))).grown hgr (Nat.le_of_lt h1'.lt) (fun j hj => by have := h2'.not_own j hj; omega)
  refine ⟨v', w', hrun, ⟨hb1.put 2 v', ?_, hB.setCell (p := ⟨g, 2, none⟩) (Nat.le_refl _) _⟩, hb1.frz 2, by rw [hb1.cell]; rfl⟩
  have hn : v'.ownBlock ≠ some g := fun e => by have := hbuf.not_own g e; omega
  have := hbuf.far (p := ⟨g, 2, none⟩) hn v'
  rw [show (m ++ [y]).length = m.length + 1 by simp]
  exact this
end

/-- What a method of the scanner leaves: false, or the bytes and the new offset. -/
def ScanPost (w0 : World) (g : Nat) (P : Option Addr) (n c : Nat) (o : Option (List UInt8 × Nat)) (e : Ending) (w' : World) : Prop :=
  match o with
  | none => e = .returned (.bool false) ∧ Below g w0 w'
  | some (m, j) => e = .returned (.bool true) ∧ ∃ out, St w0 w' g P n c (j : Int) out m

def curAt (w : World) (g : Nat) : Nat := (intOf ((w.cell? ⟨g, 1, none⟩).getD undef)).toNat
theorem St.cur {w0 w : World} {g : Nat} {P : Option Addr} {n c k : Nat} {out : Value} {m : List UInt8} (h : St w0 w g P n c (k : Int) out m) : curAt w g = k := by
  unfold curAt; rw [h.1.cell]; simp [intOf]
end Go.Proofs.YthoccgkkgnlbpaaDoor
