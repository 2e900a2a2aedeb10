/- resolve.each, and the functions that are handed to it. -/
import Derived.Test.YtpcffnhbodjpbaaGreatDoorIdxW
import Derived.Test.YtpcffnhbodjpbaaGreatDoorRgE
set_option linter.unusedVariables false
set_option linter.unusedSimpArgs false
namespace Go.Proofs.YtpcffnhbodjpbaaGreatDoor
open Go Go.RowKit Go.Shelf Go.Lib Go.Sort

/-- The slice value v reads as the cells ys, one an element, in a block below B. -/
def Rd1 (W : World) (B : Nat) (v : Value) (ys : List Value) : Prop :=
  ∃ A cap, v = .slice A ys.length cap ∧ ys.length ≤ cap ∧ (0 < ys.length → ∃ b o, A = some ⟨b, o, none⟩ ∧ b < B ∧ ∀ j u, ys[j]? = some u → W.cell? ⟨b, o + j, none⟩ = some u)
theorem Rd1.below {W W' : World} {B n : Nat} {v : Value} {l : List Value} (h : Rd1 W B v l) (hb : Below n W W') (hn : B ≤ n) : Rd1 W' B v l := by
  obtain ⟨A, cap, e, h1, h2⟩ := h
  exact ⟨A, cap, e, h1, fun h0 => by
    obtain ⟨b, o, e2, h3, h4⟩ := h2 h0
    exact ⟨b, o, e2, h3, fun j u hj => (hb.cell (p := ⟨b, o + j, none⟩) (Nat.lt_of_lt_of_le h3 hn)).trans (h4 j u hj)⟩⟩
theorem Rd1.mono {W : World} {B B' : Nat} {v : Value} {l : List Value} (h : Rd1 W B v l) (hB : B ≤ B') : Rd1 W B' v l := by
  obtain ⟨A, cap, e, h1, h2⟩ := h
  exact ⟨A, cap, e, h1, fun h0 => by
    obtain ⟨b, o, e2, h3, h4⟩ := h2 h0
    exact ⟨b, o, e2, by omega, h4⟩⟩
theorem Rd1.of_buf {W : World} {base n : Nat} {v : Value} {l : List Value} (h : Buf W base 1 v n l) : Rd1 W W.heap.size v l := by
  have hn := h.1
  rw [Nat.mul_one] at hn
  subst hn
  rcases h.2 with ⟨rfl, h0⟩ | ⟨g, off, cap, rfl, h1, h2, h3, h4, -⟩
  · exact ⟨none, 0, by rw [h0], by omega, fun h => by omega⟩
  · exact ⟨_, cap, rfl, h3, fun _ => ⟨g, off, rfl, h2, h4⟩⟩
theorem Rd1.of_u32 {W : World} {B : Nat} {v : Value} {l : List Int} (h : U32 W B v l) : Rd1 W B v (l.map (Value.int .u32)) := by
  obtain ⟨A, cap, e, h1, h2⟩ := h
  refine ⟨A, cap, by rw [List.length_map]; exact e, by rw [List.length_map]; exact h1, fun h0 => ?_⟩
  rw [List.length_map] at h0
  obtain ⟨b, o, e2, h3, h4⟩ := h2 h0
  refine ⟨b, o, e2, h3, fun j u hj => ?_⟩
  rw [List.getElem?_map] at hj
  cases hx : l[j]? with
  | none => rw [hx] at hj; cases hj
  | some x => rw [hx] at hj; injection hj with hj; subst hj; exact h4 j x hx

/-- 'out = append(out, x)', one cell an element. -/
theorem push_one {T E : TypeId} {z : Value} {by_ : Nat} (hT : Tryz.prog.underlying T = some (.slice E)) (hinfo : (Tryz.prog.info? E).map (fun i => (i.zero, i.size, i.bytes)) = some (some z, 1, by_)) (hzc : z.cells.size = 1) (hby : by_ ≤ 16)
    {base k : Nat} {v : Value} {xs : List Value} {W : World} (h : Buf W base 1 v k xs) (u : Value) (hu : u.oneCell' = true) (hb : base ≤ W.heap.size) (hl : k ≤ 1048576) :
    ∃ g o c w', (Builtin.append_ #[T, T] T #[v, .slice (some ⟨W.heap.size, 0, none⟩) 1 1]).run Tryz.prog (W.alloc (.cells #[u] E)) = .ok (.slice (some ⟨g, o, none⟩) (k + 1) c) w' ∧
      Buf w' base 1 (.slice (some ⟨g, o, none⟩) (k + 1) c) (k + 1) (xs ++ [u]) ∧ Below base W w' := by
  obtain ⟨i0, hi, hz0, hz1, hz2⟩ := info_parts hinfo
  have hw : ∀ j, v.ownBlock = some j → base ≤ j := fun j e => by
    rcases h.2 with ⟨rfl, _⟩ | ⟨g, off, cap, rfl, h1, _⟩
    · cases e
    · have e' : g = j := by simpa [Value.ownBlock] using e
      omega
  obtain ⟨v', w', hrun, hb', hgr, -⟩ := run_append_buf (P := Tryz.prog) (W.alloc (.cells #[u] E)) T T E i0 _ 1 by_ hT hi hz0 hz1 hz2 hzc (by decide) base v k _ (h.past _) (some ⟨W.heap.size, 0, none⟩) 1 1 [u]
    ⟨rfl, fun y hy => by simp at hy; subst hy; exact hu, fun _ => ⟨_, rfl, fun j y hj => by
      rw [Go.WideShapes.add_plain]
      simp only [World.cell?, heap_alloc_new, Nat.zero_add]
      simpa using hj⟩⟩ (by unfold maxLen; omega) (by have : (k + 1) * by_ ≤ 1048577 * 16 := Nat.mul_le_mul (by omega) hby; omega) (by rw [World.size_alloc]; omega)
  have hbel : Below base W w' := ((Below.refl _ W).alloc hb _).grown hgr (by rw [World.size_alloc]; omega) hw
  obtain ⟨g, o, c, rfl⟩ := buf_pos hb'
  exact ⟨g, o, c, w', hrun, hb', hbel⟩
theorem infoI64 : (Tryz.prog.info? 3).map (fun i => (i.zero, i.size, i.bytes)) = some (some (.int .i64 0), 1, 8) := by kernel_rfl

theorem below_drewN {B : Nat} (w : World) (q : Nat) : Below B w (w.drewN q) := ⟨rfl, rfl, rfl, Nat.le_refl _, fun _ _ => rfl⟩
end Go.Proofs.YtpcffnhbodjpbaaGreatDoor
