/- Arguments of type []byte, as the walks take them; and what keeps them. Arguments of types []uint32 and []api.Range, as the walks take them. -/
import Derived.Test.YtpcffnhbodjpbaaGreatDoorBys
import Derived.Lib.SlBytesRowKit
import Derived.Test.YtpcffnhbodjpbaaGreatDoorRan32
import Derived.Test.YtpcffnhbodjpbaaGreatDoorRgB
import Derived.Deep.Slices
import Derived.Deep.Fields
import Derived.Lib.SmallJoins
set_option linter.unusedVariables false
set_option linter.unusedSimpArgs false
namespace Go.Proofs.YtpcffnhbodjpbaaGreatDoor
open Go Go.ChangeShapes Go.WideShapes Go.ChangeAt Go.RowKit

theorem laidOut : laidOutB Tryz.prog = true := by kernel_rfl
theorem cellsU8 : Tryz.prog.cellsOf 5 = 1 := by kernel_rfl

theorem bytes_arg {H : Type} {enc : TypeId × Value → H} {P : Program} {t e : TypeId} (ht : P.underlying t = some (.slice e)) (he : P.underlying e = some (.int .u8)) (hc : P.cellsOf e = 1) {W : World} {r : Reach} {b0 : Nat} {v : Value} {d : DataW H} {p : List MemPlace}
    (hval : Value.okWide P W r b0 t v) (h0 : DataW.Trod enc P W 0 (fun _ => true) true t v d p) : ∃ a l cap, v = .slice a l.length cap ∧ l.length ≤ cap ∧ Bys W W.heap.size a l := by
  obtain ⟨a, n, cap, rfl⟩ := okWide_slice ht hval
  obtain ⟨xs, hx, hcap, hb, _, hr, _⟩ := opened_bytes ht he hc h0
  have hl : (Lib.bytesOf xs).length = n := by rw [Lib.bytesOf_length, hx]
  refine ⟨a, Lib.bytesOf xs, cap, by rw [hl], by omega, fun hp => ?_⟩
  obtain ⟨b, o, e1, hcell⟩ := hb (by omega)
  refine ⟨b, o, e1, ?_, fun i hi => ?_⟩
  · have := World.block_lt_of_cell? _ _ (hcell 0 (by omega))
    exact this
  · rw [hcell i (by omega)]
    have hi' : i < xs.length := by omega
    have hxr := hr (xs[i]) (List.getElem_mem hi')
    have : ((Lib.bytesOf xs)[i].toNat : Int) = xs[i] := by
      simp only [Lib.bytesOf, List.getElem_map]
      rw [UInt8.toNat_ofNat']
      omega
    rw [this]
    simp [List.getD, hi']
/-- The same, and a nil slice has no cells. -/
theorem bytes_argn {H : Type} {enc : TypeId × Value → H} {P : Program} {t e : TypeId} (ht : P.underlying t = some (.slice e)) (he : P.underlying e = some (.int .u8)) (hc : P.cellsOf e = 1) {W : World} {r : Reach} {b0 : Nat} {v : Value} {d : DataW H} {p : List MemPlace}
    (hval : Value.okWide P W r b0 t v) (h0 : DataW.Trod enc P W 0 (fun _ => true) true t v d p) : ∃ a l cap, v = .slice a l.length cap ∧ l.length ≤ cap ∧ Bys W W.heap.size a l ∧ (a = none → l.length = 0 ∧ cap = 0) := by
  obtain ⟨a, l, cap, rfl, h1, h2⟩ := bytes_arg ht he hc hval h0
  obtain ⟨xs, _, _, _, _, _, hn⟩ := opened_bytes ht he hc h0
  exact ⟨a, l, cap, rfl, h1, h2, fun e => ⟨by have := hn e; omega, hn e⟩⟩
theorem bytes_stays {H : Type} {enc : TypeId × Value → H} {P : Program} {t : TypeId} (hl : laidOutB P = true) (hr : P.readableRec t = true) (hrow : t < P.types.size) {W W' : World} {v : Value} {d : DataW H} {ps : List MemPlace} {sp : Nat → Bool}
    (h : DataW.Trod enc P W 0 (fun _ => true) true t v d ps) (hb : Below W.heap.size W W') (hlt : ∀ x ∈ ps, x.block < W.heap.size) (hs : ∀ x ∈ ps, sp x.block = true) : DataW.Trod enc P W' 0 sp true t v d ps :=
  WideElems.Trod_stays hl hr hrow h (fun x hx => hb.same (hlt x hx)) (fun x hx => hs x hx)
end Go.Proofs.YtpcffnhbodjpbaaGreatDoor

namespace Go.Proofs.YtpcffnhbodjpbaaGreatDoor
open Go Go.ChangeShapes Go.WideShapes Go.ChangeAt Go.RowKit Go.Deep

theorem list_of {A : Type} {Q : Nat → A → Prop} (n : Nat) (h : ∀ i, i < n → ∃ a, Q i a) : ∃ L : List A, L.length = n ∧ ∀ i (hi : i < L.length), Q i L[i] := by
  refine ⟨List.ofFn (fun i : Fin n => Classical.choose (h i.val i.isLt)), by simp, fun i hi => ?_⟩
  have hi' : i < n := by simpa using hi
  rw [List.getElem_ofFn]
  exact Classical.choose_spec (h i hi')
theorem cellsU32 : Tryz.prog.cellsOf 30 = 1 := by kernel_rfl
theorem cellsRange : Tryz.prog.cellsOf 32 = 2 := by kernel_rfl
set_option maxRecDepth 100000 in
theorem u32s_arg {H : Type} {enc : TypeId × Value → H} {W : World} {r : Reach} {b0 : Nat} {v : Value} {d : DataW H} {p : List MemPlace} (hval : Value.okWide Tryz.prog W r b0 37 v) (h0 : DataW.Trod enc Tryz.prog W 0 (fun _ => true) true 37 v d p) :
    ∃ l : List Int, U32 W W.heap.size v l ∧ ∀ x ∈ l, 0 ≤ x ∧ x < 4294967296 := by
  obtain ⟨a, n, cap, rfl⟩ := okWide_slice Tryz.underlying37 hval
  obtain ⟨fuel, hf⟩ := h0
  rcases open_ints Tryz.underlying37 Tryz.underlying30 cellsU32 hf with ⟨hcs, _⟩ | ⟨a2, len, cap2, zs, hcs, _, hl, hm, hzl, _, hel, hwf⟩
  · simp [Value.cells] at hcs
    obtain ⟨rfl, rfl, rfl⟩ := hcs
    exact ⟨[], ⟨none, 0, rfl, Nat.le_refl _, fun h => absurd h (by simp)⟩, fun x hx => by cases hx⟩
  · simp [Value.cells] at hcs
    obtain ⟨rfl, rfl, rfl⟩ := hcs
    have hzc : zs.length = cap := by simpa using hzl
    have hlen : (zs.take n).length = n := by rw [List.length_take]; omega
    refine ⟨zs.take n, ⟨some a2, cap, by rw [hlen], by omega, fun h => ?_⟩, fun x hx => ?_⟩
    · have hc : ∀ i, i < zs.length → W.cell? (a2.add i) = some (.int .u32 (zs.getD i 0)) := hel
      have hs : a2 = ⟨a2.block, a2.off, none⟩ := by
        have h1 : a2.spot = none := World.cell?_spot (w := W) (a := a2) (v := .int .u32 (zs.getD 0 0)) (hc 0 (by omega))
        cases a2
        simp only at h1
        rw [h1]
      rw [hs] at hc
      simp only [Go.WideShapes.add_plain] at hc
      refine ⟨a2.block, a2.off, by rw [← hs], World.block_lt_of_cell? W ⟨a2.block, a2.off + 0, none⟩ (hc 0 (by omega)), fun j x hj => ?_⟩
      have hj' : j < n := by have := (List.getElem?_eq_some_iff.1 hj).1; omega
      rw [List.getElem?_take_of_lt hj'] at hj
      rw [hc j (by omega), List.getD_eq_getElem?_getD, hj]
      rfl
    · have := bounds_u32 (hwf x (List.mem_of_mem_take hx))
      omega
set_option maxRecDepth 100000 in
theorem two_trod {H : Type} {enc : TypeId × Value → H} {W : World} {fuel : Nat} {l : List Value} {x : DataW H × List MemPlace} (hlen : l.length = 2) (hf : DataW.trod enc Tryz.prog W 0 (fun _ => true) true fuel 32 l = some x) :
    ∃ y : RB, l = [.int .u32 y.rng.lo, .int .u32 y.rng.hi] := by
  match l, hlen with
  | [c0, c1], _ =>
    have hone : oneCellFields Tryz.prog (match Tryz.prog.underlying 32 with | some (.struct fs) => fs | _ => #[]) = true := by kernel_rfl
    obtain ⟨xs, n, _, _, _, hxl, hg⟩ := DataW.trod_struct Tryz.underlying32 hf
    have hk : ∀ (j : Nat) (f : Field), (match Tryz.prog.underlying 32 with | some (.struct fs) => fs | _ => #[])[j]? = some f → f.offset = j ∧ Tryz.prog.cellsOf f.type = 1 := fun j f hj => hone_of hone j f hj
    rw [Tryz.underlying32] at hk
    match xs, hxl with
    | [y0, y1], _ =>
      have g0 := hg 0 _ rfl
      have g1 := hg 1 _ rfl
      rw [(hk 0 _ rfl).1, (hk 0 _ rfl).2] at g0
      rw [(hk 1 _ rfl).1, (hk 1 _ rfl).2] at g1
      obtain ⟨a, ha, _, hwa⟩ := DataW.trod_int Tryz.underlying30 g0
      obtain ⟨c, hc, _, hwc⟩ := DataW.trod_int Tryz.underlying30 g1
      simp at ha hc
      subst ha hc
      have ba := bounds_u32 hwa
      have bc := bounds_u32 hwc
      obtain ⟨a', rfl⟩ := Int.eq_ofNat_of_zero_le ba.1
      obtain ⟨c', rfl⟩ := Int.eq_ofNat_of_zero_le bc.1
      exact ⟨(⟨a', by omega⟩, ⟨c', by omega⟩), rfl⟩
set_option maxRecDepth 100000 in
theorem rngs_arg {H : Type} {enc : TypeId × Value → H} {W : World} {r : Reach} {b0 : Nat} {v : Value} {d : DataW H} {p : List MemPlace} (hval : Value.okWide Tryz.prog W r b0 22 v) (h0 : DataW.Trod enc Tryz.prog W 0 (fun _ => true) true 22 v d p) :
    ∃ l : List RB, RgL W W.heap.size v (l.map RB.rng) := by
  obtain ⟨a, n, cap, rfl⟩ := okWide_slice Tryz.underlying22 hval
  obtain ⟨fuel, hf⟩ := h0
  rcases open_slice Tryz.underlying22 hf with ⟨hcs, _⟩ | ⟨a2, len, cap2, m, k, D, Pl, hcs, _, hl, hm, hmm, _, hel⟩
  · simp [Value.cells] at hcs
    obtain ⟨rfl, rfl, rfl⟩ := hcs
    exact ⟨[], ⟨none, 0, rfl, Nat.le_refl _, fun h => absurd h (by simp)⟩⟩
  · simp [Value.cells] at hcs
    obtain ⟨rfl, rfl, rfl⟩ := hcs
    have hm2 : m = cap := by rw [hmm]; rfl
    have hQ : ∀ i, i < n → ∃ y : RB, W.cell? (a2.add (i * 2)) = some (.int .u32 y.rng.lo) ∧ W.cell? (a2.add (i * 2 + 1)) = some (.int .u32 y.rng.hi) := fun i hi => by
      obtain ⟨l, hc, ht⟩ := hel i (by omega)
      rw [cellsRange] at hc
      obtain ⟨_, hll, hat⟩ := World.cells?_some hc
      obtain ⟨y, rfl⟩ := two_trod hll ht
      refine ⟨y, ?_, ?_⟩
      · have h1 := hat 0 (by decide)
        rw [Go.Deep.add_add] at h1
        exact h1
      · have h1 := hat 1 (by decide)
        rw [Go.Deep.add_add] at h1
        exact h1
    obtain ⟨L, hL, hall⟩ := list_of n hQ
    refine ⟨L, ⟨some a2, cap, by rw [List.length_map, hL], by rw [List.length_map, hL]; omega, fun h => ?_⟩⟩
    rw [List.length_map] at h
    have hs : a2 = ⟨a2.block, a2.off, none⟩ := by
      obtain ⟨hc, _⟩ := hall 0 h
      have h1 : a2.spot = none := World.cell?_spot (w := W) (a := a2) (v := .int .u32 L[0].rng.lo) hc
      cases a2
      simp only at h1
      rw [h1]
    refine ⟨a2.block, a2.off, by rw [← hs], ?_, fun j r hj => ?_⟩
    · obtain ⟨hc, _⟩ := hall 0 h
      rw [hs] at hc
      simp only [Go.WideShapes.add_plain] at hc
      exact World.block_lt_of_cell? W ⟨a2.block, a2.off + 0 * 2, none⟩ hc
    · rw [List.getElem?_map] at hj
      have hjl : j < L.length := by
        rcases Nat.lt_or_ge j L.length with h | h
        · exact h
        · rw [List.getElem?_eq_none h] at hj; cases hj
      rw [List.getElem?_eq_getElem hjl] at hj
      injection hj with hj
      subst hj
      obtain ⟨h1, h2⟩ := hall j hjl
      rw [hs] at h1 h2
      simp only [Go.WideShapes.add_plain] at h1 h2
      exact ⟨h1, h2⟩
end Go.Proofs.YtpcffnhbodjpbaaGreatDoor
