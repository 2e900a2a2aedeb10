/- Arguments of types []uint32 and []api.Range, as the walks take them. -/
import Derived.Test.YtlfpefebocepfaaGreatArgs
import Derived.Test.YtlfpefebocepfaaGreatRan32
import Derived.Test.YtlfpefebocepfaaGreatRgB
import Derived.Deep.Slices
import Derived.Deep.Fields
import Derived.Lib.SmallJoins
set_option linter.unusedVariables false
set_option linter.unusedSimpArgs false
namespace Go.Proofs.YtlfpefebocepfaaGreat
open Go Go.ChangeShapes Go.WideShapes Go.ChangeAt Go.RowKit Go.Deep

theorem list_of {A : Type} {Q : Nat → A → Prop} (n : Nat) (h : ∀ i, i < n → ∃ a, Q i a) : ∃ L : List A, L.length = n ∧ ∀ i (hi : i < L.length), Q i L[i] := by
  refine ⟨List.ofFn (fun i : Fin n => Classical.choose (h i.val i.isLt)), by simp, fun i hi => ?_⟩
  have hi' : i < n := by simpa using hi
  rw [List.getElem_ofFn]
  exact Classical.choose_spec (h i hi')
theorem cellsU32 : Tryz.prog.cellsOf 31 = 1 := by kernel_rfl
theorem cellsRange : Tryz.prog.cellsOf 33 = 2 := by kernel_rfl
set_option maxRecDepth 100000 in
theorem u32s_arg {H : Type} {enc : TypeId × Value → H} {W : World} {r : Reach} {b0 : Nat} {v : Value} {d : DataW H} {p : List MemPlace} (hval : Value.okWide Tryz.prog W r b0 22 v) (h0 : DataW.Trod enc Tryz.prog W 0 (fun _ => true) true 22 v d p) :
    ∃ l : List Int, U32 W W.heap.size v l ∧ ∀ x ∈ l, 0 ≤ x ∧ x < 4294967296 := by
  obtain ⟨a, n, cap, rfl⟩ := okWide_slice Tryz.underlying22 hval
  obtain ⟨fuel, hf⟩ := h0
  rcases open_ints Tryz.underlying22 Tryz.underlying31 cellsU32 hf with ⟨hcs, _⟩ | ⟨a2, len, cap2, zs, hcs, _, hl, hm, hzl, _, hel, hwf⟩
  · simp [Value.cells] at hcs
    obtain ⟨rfl, rfl, rfl⟩ := hcs
    exact ⟨[], ⟨none, 0, rfl, Nat.le_refl _, fun h => absurd h (by simp)⟩, fun x hx => by cases hx⟩
  · simp [Value.cells] at hcs
    obtain ⟨rfl, rfl, rfl⟩ := hcs
    have hzc : zs.length = cap := by simpa using hzl
    have hlen : (zs.take n).length = n := by rw [List.length_take]; omega
    refine ⟨zs.take n, ⟨some a2, cap, by rw [hlen], by omega, fun h => ?_⟩, fun x hx => ?_⟩
    · have hc : ∀ i, i < zs.length → W.cell? (a2.add i) = some (.int .u32 (zs.getD i 0)) := hel
      have hs : a2 = ⟨a2.block, a2.off, none⟩ := by
        have h1 : a2.spot = none := World.cell?_spot (w := W) (a := a2) (v := .int .u32 (zs.getD 0 0)) (hc 0 (by omega))
        cases a2
        simp only at h1
        rw [h1]
      rw [hs] at hc
      simp only [Go.WideShapes.add_plain] at hc
      refine ⟨a2.block, a2.off, by rw [← hs], World.block_lt_of_cell? W ⟨a2.block, a2.off + 0, none⟩ (hc 0 (by omega)), fun j x hj => ?_⟩
      have hj' : j < n := by have := (List.getElem?_eq_some_iff.1 hj).1; omega
      rw [List.getElem?_take_of_lt hj'] at hj
      rw [hc j (by omega), List.getD_eq_getElem?_getD, hj]
      rfl
    · have := bounds_u32 (hwf x (List.mem_of_mem_take hx))
      omega
set_option maxRecDepth 100000 in
theorem two_trod {H : Type} {enc : TypeId × Value → H} {W : World} {fuel : Nat} {l : List Value} {x : DataW H × List MemPlace} (hlen : l.length = 2) (hf : DataW.trod enc Tryz.prog W 0 (fun _ => true) true fuel 33 l = some x) :
    ∃ y : RB, l = [.int .u32 y.rng.lo, .int .u32 y.rng.hi] := by
  match l, hlen with
  | [c0, c1], _ =>
    have hone : oneCellFields Tryz.prog (match Tryz.prog.underlying 33 with | some (.struct fs) => fs | _ => #[]) = true := by kernel_rfl
    obtain ⟨xs, n, _, _, _, hxl, hg⟩ := DataW.trod_struct Tryz.underlying33 hf
    have hk : ∀ (j : Nat) (f : Field), (match Tryz.prog.underlying 33 with | some (.struct fs) => fs | _ => #[])[j]? = some f → f.offset = j ∧ Tryz.prog.cellsOf f.type = 1 := fun j f hj => hone_of hone j f hj
    rw [Tryz.underlying33] at hk
    match xs, hxl with
    | [y0, y1], _ =>
      have g0 := hg 0 _ rfl
      have g1 := hg 1 _ rfl
      rw [(hk 0 _ rfl).1, (hk 0 _ rfl).2] at g0
      rw [(hk 1 _ rfl).1, (hk 1 _ rfl).2] at g1
      obtain ⟨a, ha, _, hwa⟩ := DataW.trod_int Tryz.underlying31 g0
      obtain ⟨c, hc, _, hwc⟩ := DataW.trod_int Tryz.underlying31 g1
      simp at ha hc
      subst ha hc
      have ba := bounds_u32 hwa
      have bc := bounds_u32 hwc
      obtain ⟨a', rfl⟩ := Int.eq_ofNat_of_zero_le ba.1
      obtain ⟨c', rfl⟩ := Int.eq_ofNat_of_zero_le bc.1
      exact ⟨(⟨a', by omega⟩, ⟨c', by omega⟩), rfl⟩
set_option maxRecDepth 100000 in
theorem rngs_arg {H : Type} {enc : TypeId × Value → H} {W : World} {r : Reach} {b0 : Nat} {v : Value} {d : DataW H} {p : List MemPlace} (hval : Value.okWide Tryz.prog W r b0 28 v) (h0 : DataW.Trod enc Tryz.prog W 0 (fun _ => true) true 28 v d p) :
    ∃ l : List RB, RgL W W.heap.size v (l.map RB.rng) := by
  obtain ⟨a, n, cap, rfl⟩ := okWide_slice Tryz.underlying28 hval
  obtain ⟨fuel, hf⟩ := h0
  rcases open_slice Tryz.underlying28 hf with ⟨hcs, _⟩ | ⟨a2, len, cap2, m, k, D, Pl, hcs, _, hl, hm, hmm, _, hel⟩
  · simp [Value.cells] at hcs
    obtain ⟨rfl, rfl, rfl⟩ := hcs
    exact ⟨[], ⟨none, 0, rfl, Nat.le_refl _, fun h => absurd h (by simp)⟩⟩
  · simp [Value.cells] at hcs
    obtain ⟨rfl, rfl, rfl⟩ := hcs
    have hm2 : m = cap := by rw [hmm]; rfl
    have hQ : ∀ i, i < n → ∃ y : RB, W.cell? (a2.add (i * 2)) = some (.int .u32 y.rng.lo) ∧ W.cell? (a2.add (i * 2 + 1)) = some (.int .u32 y.rng.hi) := fun i hi => by
      obtain ⟨l, hc, ht⟩ := hel i (by omega)
      rw [cellsRange] at hc
      obtain ⟨_, hll, hat⟩ := World.cells?_some hc
      obtain ⟨y, rfl⟩ := two_trod hll ht
      refine ⟨y, ?_, ?_⟩
      · have h1 := hat 0 (by decide)
        rw [Go.Deep.add_add] at h1
        exact h1
      · have h1 := hat 1 (by decide)
        rw [Go.Deep.add_add] at h1
        exact h1
    obtain ⟨L, hL, hall⟩ := list_of n hQ
    refine ⟨L, ⟨some a2, cap, by rw [List.length_map, hL], by rw [List.length_map, hL]; omega, fun h => ?_⟩⟩
    rw [List.length_map] at h
    have hs : a2 = ⟨a2.block, a2.off, none⟩ := by
      obtain ⟨hc, _⟩ := hall 0 h
      have h1 : a2.spot = none := World.cell?_spot (w := W) (a := a2) (v := .int .u32 L[0].rng.lo) hc
      cases a2
      simp only at h1
      rw [h1]
    refine ⟨a2.block, a2.off, by rw [← hs], ?_, fun j r hj => ?_⟩
    · obtain ⟨hc, _⟩ := hall 0 h
      rw [hs] at hc
      simp only [Go.WideShapes.add_plain] at hc
      exact World.block_lt_of_cell? W ⟨a2.block, a2.off + 0 * 2, none⟩ hc
    · rw [List.getElem?_map] at hj
      have hjl : j < L.length := by
        rcases Nat.lt_or_ge j L.length with h | h
        · exact h
        · rw [List.getElem?_eq_none h] at hj; cases hj
      rw [List.getElem?_eq_getElem hjl] at hj
      injection hj with hj
      subst hj
      obtain ⟨h1, h2⟩ := hall j hjl
      rw [hs] at h1 h2
      simp only [Go.WideShapes.add_plain] at h1 h2
      exact ⟨h1, h2⟩
end Go.Proofs.YtlfpefebocepfaaGreat
