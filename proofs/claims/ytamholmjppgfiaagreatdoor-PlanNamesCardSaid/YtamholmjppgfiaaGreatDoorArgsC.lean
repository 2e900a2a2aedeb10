/- Arguments of type []byte, as the walks take them; and what keeps them. Arguments of types []uint32 and []api.Range, as the walks take them. Arguments of types [2]uint8, Session and api.Command, as the walks take them. -/
import Derived.Test.YtamholmjppgfiaaGreatDoorBys
import Derived.Lib.SlBytesRowKit
import Derived.Test.YtamholmjppgfiaaGreatDoorRan32
import Derived.Test.YtamholmjppgfiaaGreatDoorRgB
import Derived.Deep.Slices
import Derived.Deep.Fields
import Derived.Lib.SmallJoins
import Derived.OpenShut
set_option linter.unusedVariables false
set_option linter.unusedSimpArgs false
namespace Go.Proofs.YtamholmjppgfiaaGreatDoor
open Go Go.ChangeShapes Go.WideShapes Go.ChangeAt Go.RowKit

theorem laidOut : laidOutB Tryz.prog = true := by kernel_rfl
theorem cellsU8 : Tryz.prog.cellsOf 5 = 1 := by kernel_rfl

theorem bytes_arg {H : Type} {enc : TypeId × Value → H} {P : Program} {t e : TypeId} (ht : P.underlying t = some (.slice e)) (he : P.underlying e = some (.int .u8)) (hc : P.cellsOf e = 1) {W : World} {r : Reach} {b0 : Nat} {v : Value} {d : DataW H} {p : List MemPlace}
    (hval : Value.okWide P W r b0 t v) (h0 : DataW.Trod enc P W 0 (fun _ => true) true t v d p) : ∃ a l cap, v = .slice a l.length cap ∧ l.length ≤ cap ∧ Bys W W.heap.size a l := by
  obtain ⟨a, n, cap, rfl⟩ := okWide_slice ht hval
  obtain ⟨xs, hx, hcap, hb, _, hr, _⟩ := opened_bytes ht he hc h0
  have hl : (Lib.bytesOf xs).length = n := by rw [Lib.bytesOf_length, hx]
  refine ⟨a, Lib.bytesOf xs, cap, by rw [hl], by omega, fun hp => ?_⟩
  obtain ⟨b, o, e1, hcell⟩ := hb (by omega)
  refine ⟨b, o, e1, ?_, fun i hi => ?_⟩
  · have := World.block_lt_of_cell? _ _ (hcell 0 (by omega))
    exact this
  · rw [hcell i (by omega)]
    have hi' : i < xs.length := by omega
    have hxr := hr (xs[i]) (List.getElem_mem hi')
    have : ((Lib.bytesOf xs)[i].toNat : Int) = xs[i] := by
      simp only [Lib.bytesOf, List.getElem_map]
      rw [UInt8.toNat_ofNat']
      omega
    rw [this]
    simp [List.getD, hi']
/-- The same, and a nil slice has no cells. -/
theorem bytes_argn {H : Type} {enc : TypeId × Value → H} {P : Program} {t e : TypeId} (ht : P.underlying t = some (.slice e)) (he : P.underlying e = some (.int .u8)) (hc : P.cellsOf e = 1) {W : World} {r : Reach} {b0 : Nat} {v : Value} {d : DataW H} {p : List MemPlace}
    (hval : Value.okWide P W r b0 t v) (h0 : DataW.Trod enc P W 0 (fun _ => true) true t v d p) : ∃ a l cap, v = .slice a l.length cap ∧ l.length ≤ cap ∧ Bys W W.heap.size a l ∧ (a = none → l.length = 0 ∧ cap = 0) := by
  obtain ⟨a, l, cap, rfl, h1, h2⟩ := bytes_arg ht he hc hval h0
  obtain ⟨xs, _, _, _, _, _, hn⟩ := opened_bytes ht he hc h0
  exact ⟨a, l, cap, rfl, h1, h2, fun e => ⟨by have := hn e; omega, hn e⟩⟩
theorem bytes_stays {H : Type} {enc : TypeId × Value → H} {P : Program} {t : TypeId} (hl : laidOutB P = true) (hr : P.readableRec t = true) (hrow : t < P.types.size) {W W' : World} {v : Value} {d : DataW H} {ps : List MemPlace} {sp : Nat → Bool}
    (h : DataW.Trod enc P W 0 (fun _ => true) true t v d ps) (hb : Below W.heap.size W W') (hlt : ∀ x ∈ ps, x.block < W.heap.size) (hs : ∀ x ∈ ps, sp x.block = true) : DataW.Trod enc P W' 0 sp true t v d ps :=
  WideElems.Trod_stays hl hr hrow h (fun x hx => hb.same (hlt x hx)) (fun x hx => hs x hx)
end Go.Proofs.YtamholmjppgfiaaGreatDoor

namespace Go.Proofs.YtamholmjppgfiaaGreatDoor
open Go Go.ChangeShapes Go.WideShapes Go.ChangeAt Go.RowKit Go.Deep

theorem list_of {A : Type} {Q : Nat → A → Prop} (n : Nat) (h : ∀ i, i < n → ∃ a, Q i a) : ∃ L : List A, L.length = n ∧ ∀ i (hi : i < L.length), Q i L[i] := by
  refine ⟨List.ofFn (fun i : Fin n => Classical.choose (h i.val i.isLt)), by simp, fun i hi => ?_⟩
  have hi' : i < n := by simpa using hi
  rw [List.getElem_ofFn]
  exact Classical.choose_spec (h i hi')
theorem cellsU32 : Tryz.prog.cellsOf 34 = 1 := by kernel_rfl
theorem cellsRange : Tryz.prog.cellsOf 128 = 2 := by kernel_rfl
set_option maxRecDepth 100000 in
theorem u32s_arg {H : Type} {enc : TypeId × Value → H} {W : World} {r : Reach} {b0 : Nat} {v : Value} {d : DataW H} {p : List MemPlace} (hval : Value.okWide Tryz.prog W r b0 52 v) (h0 : DataW.Trod enc Tryz.prog W 0 (fun _ => true) true 52 v d p) :
    ∃ l : List Int, U32 W W.heap.size v l ∧ ∀ x ∈ l, 0 ≤ x ∧ x < 4294967296 := by
  obtain ⟨a, n, cap, rfl⟩ := okWide_slice Tryz.underlying52 hval
  obtain ⟨fuel, hf⟩ := h0
  rcases open_ints Tryz.underlying52 Tryz.underlying34 cellsU32 hf with ⟨hcs, _⟩ | ⟨a2, len, cap2, zs, hcs, _, hl, hm, hzl, _, hel, hwf⟩
  · simp [Value.cells] at hcs
    obtain ⟨rfl, rfl, rfl⟩ := hcs
    exact ⟨[], ⟨none, 0, rfl, Nat.le_refl _, fun h => absurd h (by simp)⟩, fun x hx => by cases hx⟩
  · simp [Value.cells] at hcs
    obtain ⟨rfl, rfl, rfl⟩ := hcs
    have hzc : zs.length = cap := by simpa using hzl
    have hlen : (zs.take n).length = n := by rw [List.length_take]; omega
    refine ⟨zs.take n, ⟨some a2, cap, by rw [hlen], by omega, fun h => ?_⟩, fun x hx => ?_⟩
    · have hc : ∀ i, i < zs.length → W.cell? (a2.add i) = some (.int .u32 (zs.getD i 0)) := hel
      have hs : a2 = ⟨a2.block, a2.off, none⟩ := by
        have h1 : a2.spot = none := World.cell?_spot (w := W) (a := a2) (v := .int .u32 (zs.getD 0 0)) (hc 0 (by omega))
        cases a2
        simp only at h1
        rw [h1]
      rw [hs] at hc
      simp only [Go.WideShapes.add_plain] at hc
      refine ⟨a2.block, a2.off, by rw [← hs], World.block_lt_of_cell? W ⟨a2.block, a2.off + 0, none⟩ (hc 0 (by omega)), fun j x hj => ?_⟩
      have hj' : j < n := by have := (List.getElem?_eq_some_iff.1 hj).1; omega
      rw [List.getElem?_take_of_lt hj'] at hj
      rw [hc j (by omega), List.getD_eq_getElem?_getD, hj]
      rfl
    · have := bounds_u32 (hwf x (List.mem_of_mem_take hx))
      omega
set_option maxRecDepth 100000 in
theorem two_trod {H : Type} {enc : TypeId × Value → H} {W : World} {fuel : Nat} {l : List Value} {x : DataW H × List MemPlace} (hlen : l.length = 2) (hf : DataW.trod enc Tryz.prog W 0 (fun _ => true) true fuel 128 l = some x) :
    ∃ y : RB, l = [.int .u32 y.rng.lo, .int .u32 y.rng.hi] := by
  match l, hlen with
  | [c0, c1], _ =>
    have hone : oneCellFields Tryz.prog (match Tryz.prog.underlying 128 with | some (.struct fs) => fs | _ => #[]) = true := by kernel_rfl
    obtain ⟨xs, n, _, _, _, hxl, hg⟩ := DataW.trod_struct Tryz.underlying128 hf
    have hk : ∀ (j : Nat) (f : Field), (match Tryz.prog.underlying 128 with | some (.struct fs) => fs | _ => #[])[j]? = some f → f.offset = j ∧ Tryz.prog.cellsOf f.type = 1 := fun j f hj => hone_of hone j f hj
    rw [Tryz.underlying128] at hk
    match xs, hxl with
    | [y0, y1], _ =>
      have g0 := hg 0 _ rfl
      have g1 := hg 1 _ rfl
      rw [(hk 0 _ rfl).1, (hk 0 _ rfl).2] at g0
      rw [(hk 1 _ rfl).1, (hk 1 _ rfl).2] at g1
      obtain ⟨a, ha, _, hwa⟩ := DataW.trod_int Tryz.underlying34 g0
      obtain ⟨c, hc, _, hwc⟩ := DataW.trod_int Tryz.underlying34 g1
      simp at ha hc
      subst ha hc
      have ba := bounds_u32 hwa
      have bc := bounds_u32 hwc
      obtain ⟨a', rfl⟩ := Int.eq_ofNat_of_zero_le ba.1
      obtain ⟨c', rfl⟩ := Int.eq_ofNat_of_zero_le bc.1
      exact ⟨(⟨a', by omega⟩, ⟨c', by omega⟩), rfl⟩
set_option maxRecDepth 100000 in
theorem rngs_arg {H : Type} {enc : TypeId × Value → H} {W : World} {r : Reach} {b0 : Nat} {v : Value} {d : DataW H} {p : List MemPlace} (hval : Value.okWide Tryz.prog W r b0 40 v) (h0 : DataW.Trod enc Tryz.prog W 0 (fun _ => true) true 40 v d p) :
    ∃ l : List RB, RgL W W.heap.size v (l.map RB.rng) := by
  obtain ⟨a, n, cap, rfl⟩ := okWide_slice Tryz.underlying40 hval
  obtain ⟨fuel, hf⟩ := h0
  rcases open_slice Tryz.underlying40 hf with ⟨hcs, _⟩ | ⟨a2, len, cap2, m, k, D, Pl, hcs, _, hl, hm, hmm, _, hel⟩
  · simp [Value.cells] at hcs
    obtain ⟨rfl, rfl, rfl⟩ := hcs
    exact ⟨[], ⟨none, 0, rfl, Nat.le_refl _, fun h => absurd h (by simp)⟩⟩
  · simp [Value.cells] at hcs
    obtain ⟨rfl, rfl, rfl⟩ := hcs
    have hm2 : m = cap := by rw [hmm]; rfl
    have hQ : ∀ i, i < n → ∃ y : RB, W.cell? (a2.add (i * 2)) = some (.int .u32 y.rng.lo) ∧ W.cell? (a2.add (i * 2 + 1)) = some (.int .u32 y.rng.hi) := fun i hi => by
      obtain ⟨l, hc, ht⟩ := hel i (by omega)
      rw [cellsRange] at hc
      obtain ⟨_, hll, hat⟩ := World.cells?_some hc
      obtain ⟨y, rfl⟩ := two_trod hll ht
      refine ⟨y, ?_, ?_⟩
      · have h1 := hat 0 (by decide)
        rw [Go.Deep.add_add] at h1
        exact h1
      · have h1 := hat 1 (by decide)
        rw [Go.Deep.add_add] at h1
        exact h1
    obtain ⟨L, hL, hall⟩ := list_of n hQ
    refine ⟨L, ⟨some a2, cap, by rw [List.length_map, hL], by rw [List.length_map, hL]; omega, fun h => ?_⟩⟩
    rw [List.length_map] at h
    have hs : a2 = ⟨a2.block, a2.off, none⟩ := by
      obtain ⟨hc, _⟩ := hall 0 h
      have h1 : a2.spot = none := World.cell?_spot (w := W) (a := a2) (v := .int .u32 L[0].rng.lo) hc
      cases a2
      simp only at h1
      rw [h1]
    refine ⟨a2.block, a2.off, by rw [← hs], ?_, fun j r hj => ?_⟩
    · obtain ⟨hc, _⟩ := hall 0 h
      rw [hs] at hc
      simp only [Go.WideShapes.add_plain] at hc
      exact World.block_lt_of_cell? W ⟨a2.block, a2.off + 0 * 2, none⟩ hc
    · rw [List.getElem?_map] at hj
      have hjl : j < L.length := by
        rcases Nat.lt_or_ge j L.length with h | h
        · exact h
        · rw [List.getElem?_eq_none h] at hj; cases hj
      rw [List.getElem?_eq_getElem hjl] at hj
      injection hj with hj
      subst hj
      obtain ⟨h1, h2⟩ := hall j hjl
      rw [hs] at h1 h2
      simp only [Go.WideShapes.add_plain] at h1 h2
      exact ⟨h1, h2⟩
end Go.Proofs.YtamholmjppgfiaaGreatDoor

namespace Go.Proofs.YtamholmjppgfiaaGreatDoor
open Go Go.Joins Go.ChangeShapes Go.WideShapes Go.ChangeAt Go.RowKit Go.Deep

section
variable {H : Type} {enc : TypeId × Value → H} {P : Program} {w : World} {base : Nat} {spare : Nat → Bool} {held : Bool}
theorem open_agg9 {r : Reach} {b0 : Nat} {t : TypeId} {f0 f1 f2 f3 f4 f5 f6 f7 f8 : Field} {v : Value} {d : DataW H} {p : List MemPlace} (hs : P.underlying t = some (.struct #[f0, f1, f2, f3, f4, f5, f6, f7, f8])) (hone : oneCellFields P #[f0, f1, f2, f3, f4, f5, f6, f7, f8] = true) (hC : P.cellsOf t = 9)
    (hv : Value.okWide P w r b0 t v) (h : DataW.Trod enc P w base spare held t v d p) :
    ∃ (v0 v1 v2 v3 v4 v5 v6 v7 v8 : Value) (y0 y1 y2 y3 y4 y5 y6 y7 y8 : DataW H × List MemPlace) (n : Nat), v = .agg #[v0, v1, v2, v3, v4, v5, v6, v7, v8] ∧
      DataW.trod enc P w base spare held n f0.type [v0] = some y0 ∧ DataW.trod enc P w base spare held n f1.type [v1] = some y1 ∧ DataW.trod enc P w base spare held n f2.type [v2] = some y2 ∧ DataW.trod enc P w base spare held n f3.type [v3] = some y3 ∧ DataW.trod enc P w base spare held n f4.type [v4] = some y4 ∧ DataW.trod enc P w base spare held n f5.type [v5] = some y5 ∧ DataW.trod enc P w base spare held n f6.type [v6] = some y6 ∧ DataW.trod enc P w base spare held n f7.type [v7] = some y7 ∧ DataW.trod enc P w base spare held n f8.type [v8] = some y8 := by
  obtain ⟨cs, rfl, hsz⟩ := okWide_struct hs hv
  obtain ⟨l⟩ := cs
  match l, hsz.trans hC with
  | [c0, c1, c2, c3, c4, c5, c6, c7, c8], _ =>
    obtain ⟨fuel, hf⟩ := h
    obtain ⟨xs, n, _, hx, _, hlen, hg⟩ := DataW.trod_struct hs hf
    obtain ⟨o0, k0⟩ := hone_of hone 0 f0 rfl
    obtain ⟨o1, k1⟩ := hone_of hone 1 f1 rfl
    obtain ⟨o2, k2⟩ := hone_of hone 2 f2 rfl
    obtain ⟨o3, k3⟩ := hone_of hone 3 f3 rfl
    obtain ⟨o4, k4⟩ := hone_of hone 4 f4 rfl
    obtain ⟨o5, k5⟩ := hone_of hone 5 f5 rfl
    obtain ⟨o6, k6⟩ := hone_of hone 6 f6 rfl
    obtain ⟨o7, k7⟩ := hone_of hone 7 f7 rfl
    obtain ⟨o8, k8⟩ := hone_of hone 8 f8 rfl
    match xs, hlen with
    | [y0, y1, y2, y3, y4, y5, y6, y7, y8], _ =>
      exact ⟨c0, c1, c2, c3, c4, c5, c6, c7, c8, y0, y1, y2, y3, y4, y5, y6, y7, y8, n, rfl, by simpa [Value.cells, o0, k0] using hg 0 f0 rfl, by simpa [Value.cells, o1, k1] using hg 1 f1 rfl, by simpa [Value.cells, o2, k2] using hg 2 f2 rfl, by simpa [Value.cells, o3, k3] using hg 3 f3 rfl, by simpa [Value.cells, o4, k4] using hg 4 f4 rfl, by simpa [Value.cells, o5, k5] using hg 5 f5 rfl, by simpa [Value.cells, o6, k6] using hg 6 f6 rfl, by simpa [Value.cells, o7, k7] using hg 7 f7 rfl, by simpa [Value.cells, o8, k8] using hg 8 f8 rfl⟩
end
set_option maxRecDepth 100000 in
theorem u32s_trod {H : Type} {enc : TypeId × Value → H} {W : World} {v : Value} {m : Nat} {y : DataW H × List MemPlace} (hf : DataW.trod enc Tryz.prog W 0 (fun _ => true) true m 52 [v] = some y) :
    ∃ l : List Int, U32 W W.heap.size v l ∧ ∀ x ∈ l, 0 ≤ x ∧ x < 4294967296 := by
  rcases open_ints Tryz.underlying52 Tryz.underlying34 cellsU32 hf with ⟨hcs, _⟩ | ⟨a2, len, cap2, zs, hcs, _, hl, hm, hzl, _, hel, hwf⟩
  · injection hcs with hcs
    subst hcs
    exact ⟨[], ⟨none, 0, rfl, Nat.le_refl _, fun h => absurd h (by simp)⟩, fun x hx => by cases hx⟩
  · injection hcs with hcs
    subst hcs
    have hzc : zs.length = cap2 := by simpa using hzl
    have hlen : (zs.take len).length = len := by rw [List.length_take]; omega
    refine ⟨zs.take len, ⟨some a2, cap2, by rw [hlen], by omega, fun h => ?_⟩, fun x hx => ?_⟩
    · have hc : ∀ i, i < zs.length → W.cell? (a2.add i) = some (.int .u32 (zs.getD i 0)) := hel
      have hs : a2 = ⟨a2.block, a2.off, none⟩ := by
        have h1 : a2.spot = none := World.cell?_spot (w := W) (a := a2) (v := .int .u32 (zs.getD 0 0)) (hc 0 (by omega))
        cases a2
        simp only at h1
        rw [h1]
      rw [hs] at hc
      simp only [Go.WideShapes.add_plain] at hc
      refine ⟨a2.block, a2.off, by rw [← hs], World.block_lt_of_cell? W ⟨a2.block, a2.off + 0, none⟩ (hc 0 (by omega)), fun j x hj => ?_⟩
      have hj' : j < len := by have := (List.getElem?_eq_some_iff.1 hj).1; omega
      rw [List.getElem?_take_of_lt hj'] at hj
      rw [hc j (by omega), List.getD_eq_getElem?_getD, hj]
      rfl
    · have := bounds_u32 (hwf x (List.mem_of_mem_take hx))
      omega
set_option maxRecDepth 100000 in
theorem rngs_trod {H : Type} {enc : TypeId × Value → H} {W : World} {v : Value} {m : Nat} {y : DataW H × List MemPlace} (hf : DataW.trod enc Tryz.prog W 0 (fun _ => true) true m 40 [v] = some y) :
    ∃ (A : Option Addr) (n cap : Nat) (l : List RB), v = .slice A n cap ∧ RgL W W.heap.size v (l.map RB.rng) := by
  suffices h : ∃ l : List RB, RgL W W.heap.size v (l.map RB.rng) by
    obtain ⟨l, h⟩ := h
    obtain ⟨A, cap, e, -⟩ := id h
    exact ⟨A, _, cap, l, e, h⟩
  rcases open_slice Tryz.underlying40 hf with ⟨hcs, _⟩ | ⟨a2, len, cap2, mm, k, D, Pl, hcs, _, hl, hm, hmm, _, hel⟩
  · injection hcs with hcs
    subst hcs
    exact ⟨[], ⟨none, 0, rfl, Nat.le_refl _, fun h => absurd h (by simp)⟩⟩
  · injection hcs with hcs
    subst hcs
    have hm2 : mm = cap2 := by rw [hmm]; rfl
    have hQ : ∀ i, i < len → ∃ y : RB, W.cell? (a2.add (i * 2)) = some (.int .u32 y.rng.lo) ∧ W.cell? (a2.add (i * 2 + 1)) = some (.int .u32 y.rng.hi) := fun i hi => by
      obtain ⟨l, hc, ht⟩ := hel i (by omega)
      rw [cellsRange] at hc
      obtain ⟨_, hll, hat⟩ := World.cells?_some hc
      obtain ⟨y, rfl⟩ := two_trod hll ht
      refine ⟨y, ?_, ?_⟩
      · have h1 := hat 0 (by decide)
        rw [Go.Deep.add_add] at h1
        exact h1
      · have h1 := hat 1 (by decide)
        rw [Go.Deep.add_add] at h1
        exact h1
    obtain ⟨L, hL, hall⟩ := list_of len hQ
    refine ⟨L, ⟨some a2, cap2, by rw [List.length_map, hL], by rw [List.length_map, hL]; omega, fun h => ?_⟩⟩
    rw [List.length_map] at h
    have hs : a2 = ⟨a2.block, a2.off, none⟩ := by
      obtain ⟨hc, _⟩ := hall 0 h
      have h1 : a2.spot = none := World.cell?_spot (w := W) (a := a2) (v := .int .u32 L[0].rng.lo) hc
      cases a2
      simp only at h1
      rw [h1]
    refine ⟨a2.block, a2.off, by rw [← hs], ?_, fun j r hj => ?_⟩
    · obtain ⟨hc, _⟩ := hall 0 h
      rw [hs] at hc
      simp only [Go.WideShapes.add_plain] at hc
      exact World.block_lt_of_cell? W ⟨a2.block, a2.off + 0 * 2, none⟩ hc
    · rw [List.getElem?_map] at hj
      have hjl : j < L.length := by
        rcases Nat.lt_or_ge j L.length with h | h
        · exact h
        · rw [List.getElem?_eq_none h] at hj; cases hj
      rw [List.getElem?_eq_getElem hjl] at hj
      injection hj with hj
      subst hj
      obtain ⟨h1, h2⟩ := hall j hjl
      rw [hs] at h1 h2
      simp only [Go.WideShapes.add_plain] at h1 h2
      exact ⟨h1, h2⟩
set_option maxRecDepth 100000 in
theorem data_trod {H : Type} {enc : TypeId × Value → H} {W : World} {v : Value} {m : Nat} {y : DataW H × List MemPlace} (hf : DataW.trod enc Tryz.prog W 0 (fun _ => true) true m 42 [v] = some y) : ∃ A n cap, v = .slice A n cap := by
  rcases open_ints Tryz.underlying42 Tryz.underlying5 cellsU8 hf with ⟨hcs, _⟩ | ⟨a2, len, cap2, zs, hcs, _⟩
  · injection hcs with hcs
    exact ⟨_, _, _, hcs⟩
  · injection hcs with hcs
    exact ⟨_, _, _, hcs⟩
set_option maxRecDepth 100000 in
theorem u8x2_arg {H : Type} {enc : TypeId × Value → H} {W : World} {r : Reach} {b0 : Nat} {v : Value} {d : DataW H} {p : List MemPlace} (hval : Value.okWide Tryz.prog W r b0 22 v) (h0 : DataW.Trod enc Tryz.prog W 0 (fun _ => true) true 22 v d p) :
    ∃ a b : Nat, v = .agg #[.int .u8 a, .int .u8 b] ∧ a < 256 ∧ b < 256 := by
  simp only [Value.okWide, Tryz.underlying22] at hval
  obtain ⟨⟨l⟩, rfl, hsz, _⟩ := hval
  have hC : Tryz.prog.cellsOf 22 = 2 := by kernel_rfl
  have hE : Tryz.prog.cellsOf 5 = 1 := by kernel_rfl
  match l, hsz.trans hC with
  | [c0, c1], _ =>
    obtain ⟨fuel, hf⟩ := h0
    obtain ⟨xs, m, _, _, _, hlen, hg⟩ := DataW.trod_array Tryz.underlying22 hf
    match xs, hlen with
    | [y0, y1], _ =>
      have g0 : DataW.trod enc Tryz.prog W 0 (fun _ => true) true m 5 [c0] = some y0 := by simpa [Value.cells, hE] using hg 0 (by decide)
      have g1 : DataW.trod enc Tryz.prog W 0 (fun _ => true) true m 5 [c1] = some y1 := by simpa [Value.cells, hE] using hg 1 (by decide)
      obtain ⟨a, e0, -, w0⟩ := DataW.trod_int Tryz.underlying5 g0
      obtain ⟨b, e1, -, w1⟩ := DataW.trod_int Tryz.underlying5 g1
      injection e0 with e0
      injection e1 with e1
      have b0 := bounds_u8 w0
      have b1 := bounds_u8 w1
      obtain ⟨a', rfl⟩ := Int.eq_ofNat_of_zero_le b0.1
      obtain ⟨b', rfl⟩ := Int.eq_ofNat_of_zero_le b1.1
      exact ⟨a', b', by rw [e0, e1], by omega, by omega⟩
set_option maxRecDepth 100000 in
theorem cmd_arg {H : Type} {enc : TypeId × Value → H} {W : World} {r : Reach} {b0 : Nat} {v : Value} {d : DataW H} {p : List MemPlace} (hval : Value.okWide Tryz.prog W r b0 44 v) (h0 : DataW.Trod enc Tryz.prog W 0 (fun _ => true) true 44 v d p) :
    ∃ (tg mb : ByteArray) (kind items mode : Int) (sil : Bool) (fl : Int) (A D : Option Addr) (n cap nd cd : Nat) (l : List RB), v = .agg #[.string tg, .int .i64 kind, .string mb, .slice A n cap, .int .i64 items, .int .i64 mode, .bool sil, .int .u8 fl, .slice D nd cd] ∧ RgL W W.heap.size (.slice A n cap) (l.map RB.rng) := by
  obtain ⟨v0, v1, v2, v3, v4, v5, v6, v7, v8, y0, y1, y2, y3, y4, y5, y6, y7, y8, n, rfl, h0, h1, h2, h3, h4, h5, h6, h7, h8⟩ := open_agg9 Tryz.underlying44 (by kernel_rfl) (by kernel_rfl) hval h0
  obtain ⟨tg, e0, -, -⟩ := DataW.trod_string Tryz.underlying9 h0
  obtain ⟨kind, e1, -, -⟩ := DataW.trod_int Tryz.underlying3 h1
  obtain ⟨mb, e2, -, -⟩ := DataW.trod_string Tryz.underlying9 h2
  obtain ⟨A, n3, c3, l, e3, hR⟩ := rngs_trod h3
  obtain ⟨items, e4, -, -⟩ := DataW.trod_int Tryz.underlying3 h4
  obtain ⟨mode, e5, -, -⟩ := DataW.trod_int Tryz.underlying3 h5
  obtain ⟨sil, e6, -⟩ := DataW.trod_bool Tryz.underlying4 h6
  obtain ⟨fl, e7, -, -⟩ := DataW.trod_int Tryz.underlying41 h7
  obtain ⟨D, n8, c8, e8⟩ := data_trod h8
  injection e0 with e0; injection e1 with e1; injection e2 with e2; injection e4 with e4; injection e5 with e5; injection e6 with e6; injection e7 with e7
  subst e3
  exact ⟨tg, mb, kind, items, mode, sil, fl, A, D, n3, c3, n8, c8, l, by rw [e0, e1, e2, e4, e5, e6, e7, e8], hR⟩
end Go.Proofs.YtamholmjppgfiaaGreatDoor
