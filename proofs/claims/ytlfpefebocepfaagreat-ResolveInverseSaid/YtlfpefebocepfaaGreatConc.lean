/- The walks of slices.Grow (on nil) and slices.Concat over ranges and over numbers. -/
import Derived.Test.YtlfpefebocepfaaGreatResW
import Derived.Lib.AppendZeros
set_option linter.unusedVariables false
set_option linter.unusedSimpArgs false
namespace Go.Proofs.YtlfpefebocepfaaGreat
open Go Go.RowKit Go.Shelf Go.Lib Go.Sort

/-- The source of an append, in a block below B. -/
def SrcLo (w : World) (B size : Nat) (A : Option Addr) (m : Nat) (xs : List Value) : Prop :=
  xs.length = m * size ∧ (∀ u ∈ xs, u.oneCell' = true) ∧ (0 < m → ∃ b o, A = some ⟨b, o, none⟩ ∧ b < B ∧ ∀ j u, xs[j]? = some u → w.cell? ⟨b, o + j, none⟩ = some u)
theorem SrcLo.below {w w' : World} {B n size m : Nat} {A : Option Addr} {xs : List Value} (h : SrcLo w B size A m xs) (hb : Below n w w') (hn : B ≤ n) : SrcLo w' B size A m xs :=
  ⟨h.1, h.2.1, fun h0 => by
    obtain ⟨b, o, e, h1, h2⟩ := h.2.2 h0
    exact ⟨b, o, e, h1, fun j u hj => (hb.cell (p := ⟨b, o + j, none⟩) (Nat.lt_of_lt_of_le h1 hn)).trans (h2 j u hj)⟩⟩
theorem SrcLo.more {w : World} {B B' size m : Nat} {A : Option Addr} {xs : List Value} (h : SrcLo w B size A m xs) (hB : B ≤ B') : SrcLo w B' size A m xs :=
  ⟨h.1, h.2.1, fun h0 => by
    obtain ⟨b, o, e, h1, h2⟩ := h.2.2 h0
    exact ⟨b, o, e, by omega, h2⟩⟩
theorem SrcLo.src {w : World} {B size m : Nat} {A : Option Addr} {xs : List Value} (h : SrcLo w B size A m xs) : Src w size A m xs :=
  ⟨h.1, h.2.1, fun h0 => by
    obtain ⟨b, o, e, h1, h2⟩ := h.2.2 h0
    exact ⟨_, e, fun j u hj => by rw [Go.WideShapes.add_plain]; exact h2 j u hj⟩⟩
def enc1 (x : Int) : List Value := [.int .u32 x]
theorem enc1_map (l : List Int) : l.flatMap enc1 = l.map (Value.int .u32) := by
  induction l with
  | nil => rfl
  | cons x l ih => rw [List.flatMap_cons, ih]; rfl
theorem enc1_len (l : List Int) : (l.flatMap enc1).length = l.length * 1 := by rw [enc1_map, List.length_map, Nat.mul_one]
theorem enc1_one (l : List Int) : ∀ u ∈ l.flatMap enc1, u.oneCell' = true := fun u hu => by
  rw [enc1_map] at hu
  obtain ⟨x, _, rfl⟩ := List.mem_map.1 hu
  rfl
theorem encB_one (l : List RB) : ∀ u ∈ l.flatMap encB, u.oneCell' = true := fun u hu => by
  obtain ⟨x, _, hx⟩ := List.mem_flatMap.1 hu
  unfold encB encR at hx
  simp at hx
  rcases hx with rfl | rfl <;> rfl
theorem SrcLo.of_rd {w : World} {B m c : Nat} {A : Option Addr} {l : List Int} (h : Rd1 w B (.slice A m c) (l.map (Value.int .u32))) : m = l.length ∧ SrcLo w B 1 A m (l.flatMap enc1) := by
  obtain ⟨A', c', e, h1, h2⟩ := h
  injection e with e1 e2 e3
  subst e1
  rw [List.length_map] at e2 h2
  refine ⟨e2, by rw [enc1_len, e2], enc1_one l, fun h0 => ?_⟩
  obtain ⟨b, o, e4, h3, h4⟩ := h2 (by omega)
  refine ⟨b, o, e4, h3, fun j u hj => h4 j u ?_⟩
  rwa [enc1_map] at hj
theorem SrcLo.of_rg {w : World} {B m c : Nat} {A : Option Addr} {l : List RB} (h : RgL w B (.slice A m c) (l.map RB.rng)) : m = l.length ∧ SrcLo w B 2 A m (l.flatMap encB) := by
  obtain ⟨A', c', e, h1, h2⟩ := h
  injection e with e1 e2 e3
  subst e1
  rw [List.length_map] at e2 h2
  refine ⟨e2, by rw [flat_len, e2], encB_one l, fun h0 => ?_⟩
  obtain ⟨b, o, e4, h3, h4⟩ := h2 (by omega)
  refine ⟨b, o, e4, h3, fun j u hj => ?_⟩
  have hj1 : j < l.length * 2 := by
    have := (List.getElem?_eq_some_iff.1 hj).1
    rwa [flat_len] at this
  have hk : j / 2 < l.length := by omega
  obtain ⟨f0, f1⟩ := flat_get l (j / 2) l[j / 2] (List.getElem?_eq_getElem hk)
  obtain ⟨g0, g1⟩ := h4 (j / 2) (RB.rng l[j / 2]) (by rw [List.getElem?_map, List.getElem?_eq_getElem hk]; rfl)
  rcases Nat.mod_two_eq_zero_or_one j with hm | hm
  · have hj2 : j = j / 2 * 2 := by omega
    rw [← hj2] at f0 g0
    rw [hj] at f0
    injection f0 with f0
    rw [g0, f0]
  · have hj2 : j = j / 2 * 2 + 1 := by omega
    rw [Nat.add_assoc, ← hj2] at g1
    rw [← hj2] at f1
    rw [hj] at f1
    injection f1 with f1
    rw [g1, f1]
theorem RgL.of_buf {W : World} {base : Nat} {v : Value} {l : List RB} (h : Buf W base 2 v l.length (l.flatMap encB)) : RgL W W.heap.size v (l.map RB.rng) := by
  rcases h.2 with ⟨rfl, h0⟩ | ⟨g, off, cap, rfl, h1, h2, h3, h4, -⟩
  · have e : l = [] := List.eq_nil_of_length_eq_zero h0
    subst e
    exact ⟨none, 0, rfl, Nat.le_refl _, fun h => absurd h (by simp)⟩
  · refine ⟨_, cap, by rw [List.length_map], by rw [List.length_map]; exact h3, fun _ => ⟨g, off, rfl, h2, fun j r hj => ?_⟩⟩
    rw [List.getElem?_map] at hj
    cases hx : l[j]? with
    | none => rw [hx] at hj; cases hj
    | some x =>
      rw [hx] at hj
      injection hj with hj
      subst hj
      obtain ⟨f0, f1⟩ := flat_get l j x hx
      exact ⟨h4 _ _ f0, h4 _ _ f1⟩
/-- The elements of the first k parts. -/
def flatA {α : Type} (L : List (List α)) (k : Nat) : List α := (L.take k).flatten
theorem flatA_next {α : Type} {L : List (List α)} {k : Nat} (h : k < L.length) : flatA L (k + 1) = flatA L k ++ L[k] := by
  unfold flatA; rw [List.take_succ_eq_append_getElem h, List.flatten_append]; simp
theorem flatA_le {α : Type} (L : List (List α)) (k : Nat) : (flatA L k).length ≤ L.flatten.length := by
  conv => rhs; rw [← List.take_append_drop k L, List.flatten_append, List.length_append]
  unfold flatA; omega
theorem flatA_all {α : Type} (L : List (List α)) (k : Nat) (h : L.length ≤ k) : flatA L k = L.flatten := by unfold flatA; rw [List.take_of_length_le h]

theorem infoR : (Tryz.prog.info? 33).map (fun i => (i.zero, i.size, i.bytes)) = some (some (.agg #[.int .u32 0, .int .u32 0]), 2, 8) := by kernel_rfl
theorem growR_run (w : World) (n : Nat) (h0 : 0 < n) (hn : n ≤ 1048576) :
    ∃ g cap w', (Builtin.append_ #[28, 3] 28 #[.slice none 0 0, .int .i64 n]).run Tryz.prog w = .ok (.slice (some ⟨g, 0, none⟩) n cap) w' ∧ n ≤ cap ∧ Buf w' w.heap.size 2 (.slice (some ⟨g, 0, none⟩) 0 cap) 0 [] ∧ Below w.heap.size w w' := by
  obtain ⟨i0, hi, hz0, hz1, hz2⟩ := info_parts infoR
  have hrun := Lib.run_append_nil_zeros (P := Tryz.prog) w 28 3 28 33 i0 (.agg #[.int .u32 0, .int .u32 0]) .i64 .i64 Tryz.underlying28 Tryz.underlying3 hi hz0 n h0 (by rw [hz1]; decide) (by omega) (by rw [hz2]; omega)
  have hge := grownCap_ge w n 0 33
  obtain ⟨cap, hcap⟩ : ∃ c, grownCap w n 0 33 = c := ⟨_, rfl⟩
  rw [hcap] at hrun hge
  obtain ⟨cs, hcs⟩ : ∃ c, Builtin.zeroCells (Value.cells (.agg #[.int .u32 0, .int .u32 0])) n ++ Builtin.zeroCells (Value.cells (.agg #[.int .u32 0, .int .u32 0])) (cap - n) = c := ⟨_, rfl⟩
  rw [hcs] at hrun
  have hsz : cs.size = cap * 2 := by
    rw [← hcs]; simp [Builtin.zeroCells, Value.cells]; omega
  have hh := heap_alloc_new w.drew (.cells cs 33)
  refine ⟨_, _, _, hrun, hge, ?_, Below.alloc (Below.drew (Below.refl _ _)) (Nat.le_refl _) _⟩
  refine ⟨rfl, .inr ⟨_, 0, _, rfl, Nat.le_refl _, by rw [World.size_alloc]; show w.heap.size < w.heap.size + 1; omega, Nat.zero_le _, fun j u hj => by simp at hj, fun j hj => ?_⟩⟩
  have hh' : (w.drew.alloc (.cells cs 33)).heap[w.heap.size]? = _ := hh
  refine ⟨?_, ?_⟩
  · simp only [World.cell?, hh', Nat.zero_add]
    rw [Array.getElem?_eq_getElem (by rw [hsz]; omega)]; rfl
  · simp only [World.frozen?, hh', Nat.zero_add]
    simp

theorem infoU : (Tryz.prog.info? 31).map (fun i => (i.zero, i.size, i.bytes)) = some (some (.int .u32 0), 1, 4) := by kernel_rfl
theorem growU_run (w : World) (n : Nat) (h0 : 0 < n) (hn : n ≤ 1048576) :
    ∃ g cap w', (Builtin.append_ #[22, 3] 22 #[.slice none 0 0, .int .i64 n]).run Tryz.prog w = .ok (.slice (some ⟨g, 0, none⟩) n cap) w' ∧ n ≤ cap ∧ Buf w' w.heap.size 1 (.slice (some ⟨g, 0, none⟩) 0 cap) 0 [] ∧ Below w.heap.size w w' := by
  obtain ⟨i0, hi, hz0, hz1, hz2⟩ := info_parts infoU
  have hrun := Lib.run_append_nil_zeros (P := Tryz.prog) w 22 3 22 31 i0 (.int .u32 0) .i64 .i64 Tryz.underlying22 Tryz.underlying3 hi hz0 n h0 (by rw [hz1]; decide) (by omega) (by rw [hz2]; omega)
  have hge := grownCap_ge w n 0 31
  obtain ⟨cap, hcap⟩ : ∃ c, grownCap w n 0 31 = c := ⟨_, rfl⟩
  rw [hcap] at hrun hge
  obtain ⟨cs, hcs⟩ : ∃ c, Builtin.zeroCells (Value.cells (.int .u32 0)) n ++ Builtin.zeroCells (Value.cells (.int .u32 0)) (cap - n) = c := ⟨_, rfl⟩
  rw [hcs] at hrun
  have hsz : cs.size = cap * 1 := by
    rw [← hcs]; simp [Builtin.zeroCells, Value.cells]; omega
  have hh := heap_alloc_new w.drew (.cells cs 31)
  refine ⟨_, _, _, hrun, hge, ?_, Below.alloc (Below.drew (Below.refl _ _)) (Nat.le_refl _) _⟩
  refine ⟨rfl, .inr ⟨_, 0, _, rfl, Nat.le_refl _, by rw [World.size_alloc]; show w.heap.size < w.heap.size + 1; omega, Nat.zero_le _, fun j u hj => by simp at hj, fun j hj => ?_⟩⟩
  have hh' : (w.drew.alloc (.cells cs 31)).heap[w.heap.size]? = _ := hh
  refine ⟨?_, ?_⟩
  · simp only [World.cell?, hh', Nat.zero_add]
    rw [Array.getElem?_eq_getElem (by rw [hsz]; omega)]; rfl
  · simp only [World.frozen?, hh', Nat.zero_add]
    simp

end Go.Proofs.YtlfpefebocepfaaGreat
