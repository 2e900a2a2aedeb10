/- Arguments of types []uint32, api.Response and []api.Event, as the walks take them. Arguments of type []api.Event and [][]api.Event, as the walks of ViewParts and ViewPlays take them. -/
import Derived.Test.YtponmnabbieafaaGreatDoorArgs
import Derived.Test.YtponmnabbieafaaGreatDoorVwA
import Derived.Deep.Slices
import Derived.Deep.Fields
import Derived.Lib.SmallJoins
set_option linter.unusedVariables false
set_option linter.unusedSimpArgs false
namespace Go.Proofs.YtponmnabbieafaaGreatDoor
open Go Go.Joins Go.ChangeShapes Go.WideShapes Go.ChangeAt Go.RowKit Go.Deep

theorem list_of {A : Type} {Q : Nat → A → Prop} (n : Nat) (h : ∀ i, i < n → ∃ a, Q i a) : ∃ L : List A, L.length = n ∧ ∀ i (hi : i < L.length), Q i L[i] := by
  refine ⟨List.ofFn (fun i : Fin n => Classical.choose (h i.val i.isLt)), by simp, fun i hi => ?_⟩
  have hi' : i < n := by simpa using hi
  rw [List.getElem_ofFn]
  exact Classical.choose_spec (h i hi')
theorem cellsU32 : Tryz.prog.cellsOf 35 = 1 := by kernel_rfl
theorem cellsEv : Tryz.prog.cellsOf 46 = 3 := by kernel_rfl
set_option maxRecDepth 100000 in
theorem u32s_arg {H : Type} {enc : TypeId × Value → H} {W : World} {r : Reach} {b0 : Nat} {v : Value} {d : DataW H} {p : List MemPlace} (hval : Value.okWide Tryz.prog W r b0 22 v) (h0 : DataW.Trod enc Tryz.prog W 0 (fun _ => true) true 22 v d p) :
    ∃ l : List Int, U32 W W.heap.size v l ∧ ∀ x ∈ l, 0 ≤ x ∧ x < 4294967296 := by
  obtain ⟨a, n, cap, rfl⟩ := okWide_slice Tryz.underlying22 hval
  obtain ⟨fuel, hf⟩ := h0
  rcases open_ints Tryz.underlying22 Tryz.underlying35 cellsU32 hf with ⟨hcs, _⟩ | ⟨a2, len, cap2, zs, hcs, _, hl, hm, hzl, _, hel, hwf⟩
  · simp [Value.cells] at hcs
    obtain ⟨rfl, rfl, rfl⟩ := hcs
    exact ⟨[], ⟨none, 0, rfl, Nat.le_refl _, fun h => absurd h (by simp)⟩, fun x hx => by cases hx⟩
  · simp [Value.cells] at hcs
    obtain ⟨rfl, rfl, rfl⟩ := hcs
    have hzc : zs.length = cap := by simpa using hzl
    have hlen : (zs.take n).length = n := by rw [List.length_take]; omega
    refine ⟨zs.take n, ⟨some a2, cap, by rw [hlen], by omega, fun h => ?_⟩, fun x hx => ?_⟩
    · have hc : ∀ i, i < zs.length → W.cell? (a2.add i) = some (.int .u32 (zs.getD i 0)) := hel
      have hs : a2 = ⟨a2.block, a2.off, none⟩ := by
        have h1 : a2.spot = none := World.cell?_spot (w := W) (a := a2) (v := .int .u32 (zs.getD 0 0)) (hc 0 (by omega))
        cases a2
        simp only at h1
        rw [h1]
      rw [hs] at hc
      simp only [Go.WideShapes.add_plain] at hc
      refine ⟨a2.block, a2.off, by rw [← hs], World.block_lt_of_cell? W ⟨a2.block, a2.off + 0, none⟩ (hc 0 (by omega)), fun j x hj => ?_⟩
      have hj' : j < n := by have := (List.getElem?_eq_some_iff.1 hj).1; omega
      rw [List.getElem?_take_of_lt hj'] at hj
      rw [hc j (by omega), List.getD_eq_getElem?_getD, hj]
      rfl
    · have := bounds_u32 (hwf x (List.mem_of_mem_take hx))
      omega
section
variable {H : Type} {enc : TypeId × Value → H} {P : Program} {w : World} {base : Nat} {spare : Nat → Bool} {held : Bool}
theorem open_agg10 {r : Reach} {b0 : Nat} {t : TypeId} {f0 f1 f2 f3 f4 f5 f6 f7 f8 f9 : Field} {v : Value} {d : DataW H} {p : List MemPlace} (hs : P.underlying t = some (.struct #[f0, f1, f2, f3, f4, f5, f6, f7, f8, f9])) (hone : oneCellFields P #[f0, f1, f2, f3, f4, f5, f6, f7, f8, f9] = true) (hC : P.cellsOf t = 10)
    (hv : Value.okWide P w r b0 t v) (h : DataW.Trod enc P w base spare held t v d p) :
    ∃ (v0 v1 v2 v3 v4 v5 v6 v7 v8 v9 : Value) (y0 y1 y2 y3 y4 y5 y6 y7 y8 y9 : DataW H × List MemPlace) (n : Nat), v = .agg #[v0, v1, v2, v3, v4, v5, v6, v7, v8, v9] ∧
      DataW.trod enc P w base spare held n f0.type [v0] = some y0 ∧ DataW.trod enc P w base spare held n f1.type [v1] = some y1 ∧ DataW.trod enc P w base spare held n f2.type [v2] = some y2 ∧ DataW.trod enc P w base spare held n f3.type [v3] = some y3 ∧ DataW.trod enc P w base spare held n f4.type [v4] = some y4 ∧ DataW.trod enc P w base spare held n f5.type [v5] = some y5 ∧ DataW.trod enc P w base spare held n f6.type [v6] = some y6 ∧ DataW.trod enc P w base spare held n f7.type [v7] = some y7 ∧ DataW.trod enc P w base spare held n f8.type [v8] = some y8 ∧ DataW.trod enc P w base spare held n f9.type [v9] = some y9 := by
  obtain ⟨cs, rfl, hsz⟩ := okWide_struct hs hv
  obtain ⟨l⟩ := cs
  match l, hsz.trans hC with
  | [c0, c1, c2, c3, c4, c5, c6, c7, c8, c9], _ =>
    obtain ⟨fuel, hf⟩ := h
    obtain ⟨xs, n, _, hx, _, hlen, hg⟩ := DataW.trod_struct hs hf
    obtain ⟨o0, k0⟩ := hone_of hone 0 f0 rfl
    obtain ⟨o1, k1⟩ := hone_of hone 1 f1 rfl
    obtain ⟨o2, k2⟩ := hone_of hone 2 f2 rfl
    obtain ⟨o3, k3⟩ := hone_of hone 3 f3 rfl
    obtain ⟨o4, k4⟩ := hone_of hone 4 f4 rfl
    obtain ⟨o5, k5⟩ := hone_of hone 5 f5 rfl
    obtain ⟨o6, k6⟩ := hone_of hone 6 f6 rfl
    obtain ⟨o7, k7⟩ := hone_of hone 7 f7 rfl
    obtain ⟨o8, k8⟩ := hone_of hone 8 f8 rfl
    obtain ⟨o9, k9⟩ := hone_of hone 9 f9 rfl
    match xs, hlen with
    | [y0, y1, y2, y3, y4, y5, y6, y7, y8, y9], _ =>
      exact ⟨c0, c1, c2, c3, c4, c5, c6, c7, c8, c9, y0, y1, y2, y3, y4, y5, y6, y7, y8, y9, n, rfl, by simpa [Value.cells, o0, k0] using hg 0 f0 rfl, by simpa [Value.cells, o1, k1] using hg 1 f1 rfl, by simpa [Value.cells, o2, k2] using hg 2 f2 rfl, by simpa [Value.cells, o3, k3] using hg 3 f3 rfl, by simpa [Value.cells, o4, k4] using hg 4 f4 rfl, by simpa [Value.cells, o5, k5] using hg 5 f5 rfl, by simpa [Value.cells, o6, k6] using hg 6 f6 rfl, by simpa [Value.cells, o7, k7] using hg 7 f7 rfl, by simpa [Value.cells, o8, k8] using hg 8 f8 rfl, by simpa [Value.cells, o9, k9] using hg 9 f9 rfl⟩
end
set_option maxRecDepth 100000 in
theorem datav_trod {H : Type} {enc : TypeId × Value → H} {W : World} {v : Value} {m : Nat} {y : DataW H × List MemPlace} (hf : DataW.trod enc Tryz.prog W 0 (fun _ => true) true m 47 [v] = some y) : ∃ A n cap, v = .slice A n cap := by
  rcases open_ints Tryz.underlying47 Tryz.underlying5 cellsU8 hf with ⟨hcs, _⟩ | ⟨a2, len, cap2, zs, hcs, _⟩
  · injection hcs with hcs
    exact ⟨_, _, _, hcs⟩
  · injection hcs with hcs
    exact ⟨_, _, _, hcs⟩
set_option maxRecDepth 100000 in
theorem rspv_arg {H : Type} {enc : TypeId × Value → H} {W : World} {r : Reach} {b0 : Nat} {v : Value} {d : DataW H} {p : List MemPlace} (hval : Value.okWide Tryz.prog W r b0 49 v) (h0 : DataW.Trod enc Tryz.prog W 0 (fun _ => true) true 49 v d p) :
    ∃ (k x st it fl ui sz : Int) (tg tx : ByteArray) (P : Option Addr) (bl cv : Nat), v = .agg #[.int .i64 k, .int .u32 x, .string tg, .int .i64 st, .string tx, .int .i64 it, .int .u8 fl, .int .u32 ui, .int .u32 sz, .slice P bl cv] ∧ (0 ≤ x ∧ x < 4294967296) := by
  obtain ⟨v0, v1, v2, v3, v4, v5, v6, v7, v8, v9, y0, y1, y2, y3, y4, y5, y6, y7, y8, y9, n, rfl, h0, h1, h2, h3, h4, h5, h6, h7, h8, h9⟩ := open_agg10 Tryz.underlying49 (by kernel_rfl) (by kernel_rfl) hval h0
  obtain ⟨k, e0, -, -⟩ := DataW.trod_int Tryz.underlying3 h0
  obtain ⟨x, e1, -, w1⟩ := DataW.trod_int Tryz.underlying35 h1
  obtain ⟨tg, e2, -, -⟩ := DataW.trod_string Tryz.underlying9 h2
  obtain ⟨st, e3, -, -⟩ := DataW.trod_int Tryz.underlying3 h3
  obtain ⟨tx, e4, -, -⟩ := DataW.trod_string Tryz.underlying9 h4
  obtain ⟨it, e5, -, -⟩ := DataW.trod_int Tryz.underlying3 h5
  obtain ⟨fl, e6, -, -⟩ := DataW.trod_int Tryz.underlying44 h6
  obtain ⟨ui, e7, -, -⟩ := DataW.trod_int Tryz.underlying35 h7
  obtain ⟨sz, e8, -, -⟩ := DataW.trod_int Tryz.underlying35 h8
  obtain ⟨P, bl, cv, e9⟩ := datav_trod h9
  injection e0 with e0; injection e1 with e1; injection e2 with e2; injection e3 with e3; injection e4 with e4; injection e5 with e5; injection e6 with e6; injection e7 with e7; injection e8 with e8
  exact ⟨k, x, st, it, fl, ui, sz, tg, tx, P, bl, cv, by rw [e0, e1, e2, e3, e4, e5, e6, e7, e8, e9], by have := bounds_u32 w1; omega⟩
set_option maxRecDepth 100000 in
theorem three_trod {H : Type} {enc : TypeId × Value → H} {W : World} {fuel : Nat} {l : List Value} {x : DataW H × List MemPlace} (hlen : l.length = 3) (hf : DataW.trod enc Tryz.prog W 0 (fun _ => true) true fuel 46 l = some x) :
    ∃ e : Ev, l = [.int .i64 e.kind, .int .u32 (e.uid : Nat), .int .u8 (e.fl : Nat)] ∧ e.uid < 4294967296 := by
  match l, hlen with
  | [c0, c1, c2], _ =>
    have hone : oneCellFields Tryz.prog (match Tryz.prog.underlying 46 with | some (.struct fs) => fs | _ => #[]) = true := by kernel_rfl
    obtain ⟨xs, n, _, _, _, hxl, hg⟩ := DataW.trod_struct Tryz.underlying46 hf
    have hk : ∀ (j : Nat) (f : Field), (match Tryz.prog.underlying 46 with | some (.struct fs) => fs | _ => #[])[j]? = some f → f.offset = j ∧ Tryz.prog.cellsOf f.type = 1 := fun j f hj => hone_of hone j f hj
    rw [Tryz.underlying46] at hk
    match xs, hxl with
    | [y0, y1, y2], _ =>
      have g0 := hg 0 _ rfl
      have g1 := hg 1 _ rfl
      have g2 := hg 2 _ rfl
      rw [(hk 0 _ rfl).1, (hk 0 _ rfl).2] at g0
      rw [(hk 1 _ rfl).1, (hk 1 _ rfl).2] at g1
      rw [(hk 2 _ rfl).1, (hk 2 _ rfl).2] at g2
      obtain ⟨a, ha, _, hwa⟩ := DataW.trod_int Tryz.underlying3 g0
      obtain ⟨c, hc, _, hwc⟩ := DataW.trod_int Tryz.underlying35 g1
      obtain ⟨f, hf2, _, hwf⟩ := DataW.trod_int Tryz.underlying44 g2
      simp at ha hc hf2
      subst ha hc hf2
      have bc := bounds_u32 hwc
      have bf := bounds_u8 hwf
      obtain ⟨c', rfl⟩ := Int.eq_ofNat_of_zero_le bc.1
      obtain ⟨f', rfl⟩ := Int.eq_ofNat_of_zero_le bf.1
      exact ⟨⟨a, c', f'⟩, rfl, by show c' < _; omega⟩
set_option maxRecDepth 100000 in
theorem evs_arg {H : Type} {enc : TypeId × Value → H} {W : World} {r : Reach} {b0 : Nat} {v : Value} {d : DataW H} {p : List MemPlace} (hval : Value.okWide Tryz.prog W r b0 28 v) (h0 : DataW.Trod enc Tryz.prog W 0 (fun _ => true) true 28 v d p) :
    ∃ (E : List Ev) (eb : Nat), EvR W v E eb ∧ (E.length = 0 ∨ eb < W.heap.size) ∧ ∀ e ∈ E, e.uid < 4294967296 := by
  obtain ⟨a, n, cap, rfl⟩ := okWide_slice Tryz.underlying28 hval
  obtain ⟨fuel, hf⟩ := h0
  rcases open_slice Tryz.underlying28 hf with ⟨hcs, _⟩ | ⟨a2, len, cap2, m, k, D, Pl, hcs, _, hl, hm, hmm, _, hel⟩
  · simp [Value.cells] at hcs
    obtain ⟨rfl, rfl, rfl⟩ := hcs
    exact ⟨[], 0, ⟨none, 0, 0, rfl, fun h => absurd h (by simp), fun i hi => absurd hi (by simp)⟩, .inl rfl, fun e he => by cases he⟩
  · simp [Value.cells] at hcs
    obtain ⟨rfl, rfl, rfl⟩ := hcs
    have hm2 : m = cap := by rw [hmm]; rfl
    have hQ : ∀ i, i < n → ∃ y : Ev, (W.cell? (a2.add (i * 3)) = some (.int .i64 y.kind) ∧ W.cell? (a2.add (i * 3 + 1)) = some (.int .u32 (y.uid : Nat)) ∧ W.cell? (a2.add (i * 3 + 2)) = some (.int .u8 (y.fl : Nat))) ∧ y.uid < 4294967296 := fun i hi => by
      obtain ⟨l, hc, ht⟩ := hel i (by omega)
      rw [cellsEv] at hc
      obtain ⟨_, hll, hat⟩ := World.cells?_some hc
      obtain ⟨y, rfl, hy⟩ := three_trod hll ht
      refine ⟨y, ⟨?_, ?_, ?_⟩, hy⟩
      · have h1 := hat 0 (by decide)
        rw [Go.Deep.add_add] at h1
        exact h1
      · have h1 := hat 1 (by decide)
        rw [Go.Deep.add_add] at h1
        exact h1
      · have h1 := hat 2 (by decide)
        rw [Go.Deep.add_add] at h1
        exact h1
    obtain ⟨L, hL, hall⟩ := list_of n hQ
    have hs : 0 < L.length → a2 = ⟨a2.block, a2.off, none⟩ := fun h => by
      obtain ⟨⟨hc, _⟩, _⟩ := hall 0 h
      have h1 : a2.spot = none := World.cell?_spot (w := W) (a := a2) (v := .int .i64 L[0].kind) hc
      cases a2
      simp only at h1
      rw [h1]
    refine ⟨L, a2.block, ⟨some a2, a2.off, cap, by rw [hL], fun h => by rw [← hs h], fun i hi => ?_⟩, ?_, fun e he => ?_⟩
    · obtain ⟨⟨h0, h1, h2⟩, _⟩ := hall i hi
      rw [hs (by omega)] at h0 h1 h2
      simp only [Go.WideShapes.add_plain] at h0 h1 h2
      exact ⟨h0, h1, h2⟩
    · rcases Nat.eq_zero_or_pos L.length with h | h
      · exact .inl h
      · obtain ⟨⟨hc, _⟩, _⟩ := hall 0 h
        exact .inr (World.block_lt_of_cell? W _ hc)
    · obtain ⟨i, hi, rfl⟩ := List.mem_iff_getElem.1 he
      exact (hall i hi).2
end Go.Proofs.YtponmnabbieafaaGreatDoor

namespace Go.Proofs.YtponmnabbieafaaGreatDoor
open Go Go.ChangeShapes Go.WideShapes Go.ChangeAt Go.RowKit Go.Deep

theorem cellsEvs : Tryz.prog.cellsOf 28 = 1 := by kernel_rfl
set_option maxRecDepth 100000 in
theorem evs_trod {H : Type} {enc : TypeId × Value → H} {W : World} {fuel : Nat} {v : Value} {y : DataW H × List MemPlace} (hf : DataW.trod enc Tryz.prog W 0 (fun _ => true) true fuel 28 [v] = some y) :
    ∃ (E : List Ev) (eb : Nat) (A : Option Addr) (cap : Nat), v = .slice A E.length cap ∧ E.length ≤ cap ∧ EvR W v E eb ∧ (E.length = 0 ∨ eb < W.heap.size) ∧ ∀ e ∈ E, e.uid < 4294967296 := by
  rcases open_slice Tryz.underlying28 hf with ⟨hcs, _⟩ | ⟨a2, n, cap, m, k, D, Pl, hcs, _, hl, hm, hmm, _, hel⟩
  · injection hcs with hv
    subst hv
    exact ⟨[], 0, none, 0, rfl, Nat.le_refl _, ⟨none, 0, 0, rfl, fun h => absurd h (by simp), fun i hi => absurd hi (by simp)⟩, .inl rfl, fun e he => by cases he⟩
  · injection hcs with hv
    subst hv
    have hm2 : m = cap := by rw [hmm]; rfl
    have hQ : ∀ i, i < n → ∃ y : Ev, (W.cell? (a2.add (i * 3)) = some (.int .i64 y.kind) ∧ W.cell? (a2.add (i * 3 + 1)) = some (.int .u32 (y.uid : Nat)) ∧ W.cell? (a2.add (i * 3 + 2)) = some (.int .u8 (y.fl : Nat))) ∧ y.uid < 4294967296 := fun i hi => by
      obtain ⟨l, hc, ht⟩ := hel i (by omega)
      rw [cellsEv] at hc
      obtain ⟨_, hll, hat⟩ := World.cells?_some hc
      obtain ⟨y, rfl, hy⟩ := three_trod hll ht
      refine ⟨y, ⟨?_, ?_, ?_⟩, hy⟩
      · have h1 := hat 0 (by decide)
        rw [Go.Deep.add_add] at h1
        exact h1
      · have h1 := hat 1 (by decide)
        rw [Go.Deep.add_add] at h1
        exact h1
      · have h1 := hat 2 (by decide)
        rw [Go.Deep.add_add] at h1
        exact h1
    obtain ⟨L, hL, hall⟩ := list_of n hQ
    have hs : 0 < L.length → a2 = ⟨a2.block, a2.off, none⟩ := fun h => by
      obtain ⟨⟨hc, _⟩, _⟩ := hall 0 h
      have h1 : a2.spot = none := World.cell?_spot (w := W) (a := a2) (v := .int .i64 L[0].kind) hc
      cases a2
      simp only at h1
      rw [h1]
    refine ⟨L, a2.block, some a2, cap, by rw [hL], by omega, ⟨some a2, a2.off, cap, by rw [hL], fun h => by rw [← hs h], fun i hi => ?_⟩, ?_, fun e he => ?_⟩
    · obtain ⟨⟨h0, h1, h2⟩, _⟩ := hall i hi
      rw [hs (by omega)] at h0 h1 h2
      simp only [Go.WideShapes.add_plain] at h0 h1 h2
      exact ⟨h0, h1, h2⟩
    · rcases Nat.eq_zero_or_pos L.length with h | h
      · exact .inl h
      · obtain ⟨⟨hc, _⟩, _⟩ := hall 0 h
        exact .inr (World.block_lt_of_cell? W _ hc)
    · obtain ⟨i, hi, rfl⟩ := List.mem_iff_getElem.1 he
      exact (hall i hi).2
set_option maxRecDepth 100000 in
theorem evsc_arg {H : Type} {enc : TypeId × Value → H} {W : World} {r : Reach} {b0 : Nat} {v : Value} {d : DataW H} {p : List MemPlace} (hval : Value.okWide Tryz.prog W r b0 28 v) (h0 : DataW.Trod enc Tryz.prog W 0 (fun _ => true) true 28 v d p) :
    ∃ (E : List Ev) (eb : Nat) (A : Option Addr) (cap : Nat), v = .slice A E.length cap ∧ E.length ≤ cap ∧ EvR W v E eb ∧ (E.length = 0 ∨ eb < W.heap.size) ∧ ∀ e ∈ E, e.uid < 4294967296 := by
  obtain ⟨a, n, cap, rfl⟩ := okWide_slice Tryz.underlying28 hval
  obtain ⟨fuel, hf⟩ := h0
  exact evs_trod (fuel := fuel) (v := .slice a n cap) (y := (d, p)) (by simpa [Value.cells] using hf)
/-- The lists of events that a slice holds. -/
def EvsIn (W : World) (q : Option Addr) (L : List (List Ev)) : Prop := ∀ i (hi : i < L.length), ∃ b o u eb, q = some ⟨b, o, none⟩ ∧ b < W.heap.size ∧ W.cell? ⟨b, o + i, none⟩ = some u ∧ EvR W u L[i] eb ∧ (L[i].length = 0 ∨ eb < W.heap.size) ∧ ∀ e ∈ L[i], e.uid < 4294967296
set_option maxRecDepth 100000 in
theorem evss_arg {H : Type} {enc : TypeId × Value → H} {W : World} {r : Reach} {b0 : Nat} {v : Value} {d : DataW H} {p : List MemPlace} (hval : Value.okWide Tryz.prog W r b0 23 v) (h0 : DataW.Trod enc Tryz.prog W 0 (fun _ => true) true 23 v d p) :
    ∃ (q : Option Addr) (L : List (List Ev)) (c : Nat), v = .slice q L.length c ∧ EvsIn W q L := by
  obtain ⟨a, n, cap, rfl⟩ := okWide_slice Tryz.underlying23 hval
  obtain ⟨fuel, hf⟩ := h0
  rcases open_slice1 Tryz.underlying23 cellsEvs hf with ⟨hcs, _⟩ | ⟨a2, len, cap2, m, k, V, D, Pl, hcs, _, hl, hm, hmm, hx, hel⟩
  · simp [Value.cells] at hcs
    obtain ⟨rfl, rfl, rfl⟩ := hcs
    exact ⟨none, [], 0, rfl, fun i hi => absurd hi (by simp)⟩
  · simp [Value.cells] at hcs
    obtain ⟨rfl, rfl, rfl⟩ := hcs
    have hm2 : m = cap := by rw [hmm]; rfl
    have hQ : ∀ i, i < n → ∃ E : List Ev, ∃ u eb, W.cell? (a2.add i) = some u ∧ EvR W u E eb ∧ (E.length = 0 ∨ eb < W.heap.size) ∧ ∀ e ∈ E, e.uid < 4294967296 := fun i hi => by
      obtain ⟨hc, ht⟩ := hel i (by omega)
      obtain ⟨E, eb, A, c, _, _, h1, h2, h3⟩ := evs_trod ht
      exact ⟨E, V i, eb, hc, h1, h2, h3⟩
    obtain ⟨L, hL, hall⟩ := list_of n hQ
    refine ⟨some a2, L, cap, by rw [hL], fun i hi => ?_⟩
    obtain ⟨u, eb, hc, h1, h2, h3⟩ := hall i hi
    have hs : a2 = ⟨a2.block, a2.off, none⟩ := by
      obtain ⟨u0, _, hc0, _⟩ := hall 0 (by omega)
      have h1 : a2.spot = none := World.cell?_spot (w := W) (a := a2) hc0
      cases a2
      simp only at h1
      rw [h1]
    rw [hs, Go.WideShapes.add_plain] at hc
    exact ⟨a2.block, a2.off, u, eb, by rw [← hs], World.block_lt_of_cell? W ⟨a2.block, a2.off + i, none⟩ hc, hc, h1, h2, h3⟩
end Go.Proofs.YtponmnabbieafaaGreatDoor
