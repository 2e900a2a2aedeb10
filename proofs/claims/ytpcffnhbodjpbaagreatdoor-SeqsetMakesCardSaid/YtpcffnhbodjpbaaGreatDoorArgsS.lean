/- Arguments of types []uint16 and [2]uint32, as the walks take them. -/
import Derived.Test.YtpcffnhbodjpbaaGreatDoorArgsU
import Derived.Test.YtpcffnhbodjpbaaGreatDoorU16
import Derived.OpenShut
set_option linter.unusedVariables false
set_option linter.unusedSimpArgs false
namespace Go.Proofs.YtpcffnhbodjpbaaGreatDoor
open Go Go.Joins Go.ChangeShapes Go.WideShapes Go.ChangeAt Go.RowKit Go.Deep

theorem cellsU16 : Tryz.prog.cellsOf 33 = 1 := by kernel_rfl
set_option maxRecDepth 100000 in
theorem u16s_arg {H : Type} {enc : TypeId × Value → H} {W : World} {r : Reach} {b0 : Nat} {v : Value} {d : DataW H} {p : List MemPlace} (hval : Value.okWide Tryz.prog W r b0 41 v) (h0 : DataW.Trod enc Tryz.prog W 0 (fun _ => true) true 41 v d p) :
    ∃ l : List Nat, U16 W W.heap.size v l ∧ ∀ x ∈ l, x < 65536 := by
  obtain ⟨a, n, cap, rfl⟩ := okWide_slice Tryz.underlying41 hval
  obtain ⟨fuel, hf⟩ := h0
  rcases open_ints Tryz.underlying41 Tryz.underlying33 cellsU16 hf with ⟨hcs, _⟩ | ⟨a2, len, cap2, zs, hcs, _, hl, hm, hzl, _, hel, hwf⟩
  · simp [Value.cells] at hcs
    obtain ⟨rfl, rfl, rfl⟩ := hcs
    exact ⟨[], ⟨none, 0, rfl, fun h => absurd h (by simp)⟩, fun x hx => by cases hx⟩
  · simp [Value.cells] at hcs
    obtain ⟨rfl, rfl, rfl⟩ := hcs
    have hzc : zs.length = cap := by simpa using hzl
    have hlen : ((zs.take n).map Int.toNat).length = n := by rw [List.length_map, List.length_take]; omega
    refine ⟨(zs.take n).map Int.toNat, ⟨some a2, cap, by rw [hlen], fun h => ?_⟩, fun x hx => ?_⟩
    · have hc : ∀ i, i < zs.length → W.cell? (a2.add i) = some (.int .u16 (zs.getD i 0)) := hel
      have hs : a2 = ⟨a2.block, a2.off, none⟩ := by
        have h1 : a2.spot = none := World.cell?_spot (w := W) (a := a2) (v := .int .u16 (zs.getD 0 0)) (hc 0 (by omega))
        cases a2
        simp only at h1
        rw [h1]
      rw [hs] at hc
      simp only [Go.WideShapes.add_plain] at hc
      refine ⟨a2.block, a2.off, by rw [← hs], World.block_lt_of_cell? W ⟨a2.block, a2.off + 0, none⟩ (hc 0 (by omega)), fun j x hj => ?_⟩
      have hj' : j < n := by have := (List.getElem?_eq_some_iff.1 hj).1; omega
      have hjz : j < zs.length := by omega
      rw [List.getElem?_map, List.getElem?_take_of_lt hj', List.getElem?_eq_getElem hjz] at hj
      injection hj with hj
      have hb := bounds_u16 (hwf zs[j] (List.getElem_mem hjz))
      rw [hc j hjz, List.getD_eq_getElem?_getD, List.getElem?_eq_getElem hjz, ← hj]
      have : ((zs[j].toNat : Nat) : Int) = zs[j] := by omega
      rw [this]
      rfl
    · obtain ⟨z, hz, rfl⟩ := List.mem_map.1 hx
      have := bounds_u16 (hwf z (List.mem_of_mem_take hz))
      omega
set_option maxRecDepth 100000 in
theorem u32x2_arg {H : Type} {enc : TypeId × Value → H} {W : World} {r : Reach} {b0 : Nat} {v : Value} {d : DataW H} {p : List MemPlace} (hval : Value.okWide Tryz.prog W r b0 48 v) (h0 : DataW.Trod enc Tryz.prog W 0 (fun _ => true) true 48 v d p) :
    ∃ a b : Nat, v = .agg #[.int .u32 a, .int .u32 b] ∧ a < 4294967296 ∧ b < 4294967296 := by
  simp only [Value.okWide, Tryz.underlying48] at hval
  obtain ⟨⟨l⟩, rfl, hsz, _⟩ := hval
  have hC : Tryz.prog.cellsOf 48 = 2 := by kernel_rfl
  have hE : Tryz.prog.cellsOf 30 = 1 := by kernel_rfl
  match l, hsz.trans hC with
  | [c0, c1], _ =>
    obtain ⟨fuel, hf⟩ := h0
    obtain ⟨xs, m, _, _, _, hlen, hg⟩ := DataW.trod_array Tryz.underlying48 hf
    match xs, hlen with
    | [y0, y1], _ =>
      have g0 : DataW.trod enc Tryz.prog W 0 (fun _ => true) true m 30 [c0] = some y0 := by simpa [Value.cells, hE] using hg 0 (by decide)
      have g1 : DataW.trod enc Tryz.prog W 0 (fun _ => true) true m 30 [c1] = some y1 := by simpa [Value.cells, hE] using hg 1 (by decide)
      obtain ⟨a, e0, -, w0⟩ := DataW.trod_int Tryz.underlying30 g0
      obtain ⟨b, e1, -, w1⟩ := DataW.trod_int Tryz.underlying30 g1
      injection e0 with e0
      injection e1 with e1
      have b0 := bounds_u32 w0
      have b1 := bounds_u32 w1
      obtain ⟨a', rfl⟩ := Int.eq_ofNat_of_zero_le b0.1
      obtain ⟨b', rfl⟩ := Int.eq_ofNat_of_zero_le b1.1
      exact ⟨a', b', by rw [e0, e1], by omega, by omega⟩
end Go.Proofs.YtpcffnhbodjpbaaGreatDoor
