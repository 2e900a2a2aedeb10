/- Indexes and views in memory: Len, At, find, Pos. -/
import Derived.Test.YtpcffnhbodjpbaaGreatDoorRan33
import Derived.Test.YtpcffnhbodjpbaaGreatDoorShelfC
import Derived.Test.YtpcffnhbodjpbaaGreatDoorRgB
set_option linter.unusedVariables false
set_option linter.unusedSimpArgs false
namespace Go.Proofs.YtpcffnhbodjpbaaGreatDoor
open Go Go.RowKit Go.Shelf Go.Lib Go.Sort

/-- The index at block b reads as the list l; all of it lies below B. -/
def IdxR (W : World) (B b : Nat) (l : List Int) : Prop := ∃ v, W.cell? ⟨b, 0, none⟩ = some v ∧ b < B ∧ U32 W B v l
theorem IdxR.below {W W' : World} {B n b : Nat} {l : List Int} (h : IdxR W B b l) (hb : Below n W W') (hn : B ≤ n) : IdxR W' B b l := by
  obtain ⟨v, h1, h2, h3⟩ := h
  exact ⟨v, (hb.cell (p := ⟨b, 0, none⟩) (Nat.lt_of_lt_of_le h2 hn)).trans h1, h2, h3.below hb hn⟩
theorem IdxR.mono {W : World} {B B' b : Nat} {l : List Int} (h : IdxR W B b l) (hB : B ≤ B') : IdxR W B' b l := by
  obtain ⟨v, h1, h2, h3⟩ := h
  exact ⟨v, h1, by omega, h3.mono hB⟩
/-- How many elements are less. -/
def cntU (l : List Int) (u : Int) : Nat := l.countP fun y => decide (y < u)
def posU (l : List Int) (u : Int) : Nat := if l[cntU l u]? = some u then cntU l u + 1 else 0

theorem countP_rangeU (l : List Int) (u : Int) : (List.range l.length).countP (fun i => !decide (u ≤ l[i]!)) = cntU l u := by
  unfold cntU
  have h := Lib.countP_range l.toArray (fun y => decide (y < u))
  simp only [List.size_toArray] at h
  rw [← show l.toArray.toList = l from rfl]
  rw [← h]
  apply List.countP_congr
  intro i hi
  have hi' : i < l.length := by simpa using hi
  simp [getElem!_pos, hi']
theorem cntU_le (l : List Int) (u : Int) : cntU l u ≤ l.length := List.countP_le_length
/-- A view reads as the list l; all of it lies below B. -/
def VwR (W : World) (B : Nat) (p : Option Addr) (l : List Int) : Prop := (p = none ∧ l = []) ∨ ∃ vb ib, p = some ⟨vb, 0, none⟩ ∧ vb < B ∧ W.cell? ⟨vb, 0, none⟩ = some (.pointer (some ⟨ib, 0, none⟩)) ∧ IdxR W B ib l
theorem VwR.below {W W' : World} {B n : Nat} {p : Option Addr} {l : List Int} (h : VwR W B p l) (hb : Below n W W') (hn : B ≤ n) : VwR W' B p l := by
  rcases h with h | ⟨vb, ib, h1, h2, h3, h4⟩
  · exact .inl h
  · exact .inr ⟨vb, ib, h1, h2, (hb.cell (p := ⟨vb, 0, none⟩) (Nat.lt_of_lt_of_le h2 hn)).trans h3, h4.below hb hn⟩
theorem VwR.mono {W : World} {B B' : Nat} {p : Option Addr} {l : List Int} (h : VwR W B p l) (hB : B ≤ B') : VwR W B' p l := by
  rcases h with h | ⟨vb, ib, h1, h2, h3, h4⟩
  · exact .inl h
  · exact .inr ⟨vb, ib, h1, by omega, h3, h4.mono hB⟩
end Go.Proofs.YtpcffnhbodjpbaaGreatDoor
