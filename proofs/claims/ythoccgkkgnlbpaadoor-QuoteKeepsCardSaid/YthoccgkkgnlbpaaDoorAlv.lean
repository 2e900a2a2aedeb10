/- The walk of the example of chapter 04. -/
import Derived.Test.YthoccgkkgnlbpaaDoorLit
import Derived.Test.YthoccgkkgnlbpaaDoorRAnn
namespace Go.Proofs.YthoccgkkgnlbpaaDoor
open Go.RowKit

theorem const_bys (w : World) (l : List UInt8) (m : Nat × Nat) : Bys (w.alloc (.cells (Lib.byteCells l).toArray 5 m)) (w.alloc (.cells (Lib.byteCells l).toArray 5 m)).heap.size (some ⟨w.heap.size, 0, none⟩) l := fun h0 => by
  refine ⟨w.heap.size, 0, rfl, by rw [World.size_alloc]; omega, fun i hi => ?_⟩
  have hh := heap_alloc_new w (.cells (Lib.byteCells l).toArray 5 m)
  simp only [World.cell?, hh]
  simp [Lib.byteCells, hi]
theorem ann_ex : annP [97, 32, 83, 69, 76, 69, 67, 84, 32, 123, 53, 125] = some 5 := by decide +kernel
theorem quo_ex : quoB [97, 34, 98] = some [34, 97, 92, 34, 98, 34] := by decide +kernel
theorem lit_ex : litB [97, 98] = [123, 50, 125, 13, 10, 97, 98] := by decide +kernel

set_option maxRecDepth 100000 in
set_option maxHeartbeats 1600000 in
theorem alive04_walk (w : World) (hS : Std w) : Calls Tryd.prog 9 #[] w fun e w' => e = .returned (.bool true) ∧ Below w.heap.size w w' := by
  have kc := fun (w : World) (C : Array Value) (n c : Nat) => Lib.run_convert_bytes_const (P := Tryd.prog) w 22 5 C n c Tryd.underlying22 Tryd.underlying5
  have H1 := Lib.hid (fun (w1 : World) (hb : Below w.heap.size w w1) => announced_any (some ⟨w1.heap.size, 0, none⟩) 12 [97, 32, 83, 69, 76, 69, 67, 84, 32, 123, 53, 125] _ (const_bys w1 _ (12, 13)) (by decide) (by decide) (hS.below (hb.alloc hb.size _)))
  have H2 := Lib.hid (fun (w1 : World) => quoted_any (some ⟨w1.heap.size, 0, none⟩) 3 [97, 34, 98] _ (const_bys w1 _ (3, 4)) (by decide))
  have H3 := Lib.hid (fun (w1 : World) (hb : Below w.heap.size w w1) => literal_any (some ⟨w1.heap.size, 0, none⟩) 2 [97, 98] _ (const_bys w1 _ (2, 3)) (by decide) (by decide) (hS.below (hb.alloc hb.size _)))
  rw [ann_ex] at H1
  rw [quo_ex] at H2
  rw [lit_ex] at H3
  have hb := Below.refl w.heap.size w
  generalize hB : w.heap.size = B at hb H1 H3 ⊢
  have hsz : B ≤ w.heap.size := by omega
  clear hS hB
  go_enter Tryd.func9, Tryd.ntmps9
  go_wp2_with fail
  refine (H1.out _ hb).mono ?_
  rintro e w1 ⟨rfl, hb1⟩
  have hc1 : Below B w w1 := (hb.alloc (by omega) _).trans (hb1.mono (by rw [World.size_alloc]; omega))
  have hs1 := hc1.size
  clear hb1 hb
  rw [annV_some]
  go_wp2_with fail
  refine (H2.out _).mono ?_
  rintro e w2 ⟨rfl, hb2⟩
  have hc2 : Below B w w2 := (hc1.alloc (by omega) _).trans (hb2.mono (by rw [World.size_alloc]; omega))
  have hs2 := hc2.size
  clear hb2 hc1 hs1
  rw [show quoV (some [34, 97, 92, 34, 98, 34]) = .tuple #[.string ⟨#[34, 97, 92, 34, 98, 34]⟩, .bool true] from rfl]
  go_wp2_with fail
  refine (H3.out _ hc2).mono ?_
  rintro e w3 ⟨v, rfl, hbuf, hb3⟩
  obtain ⟨p, cap, rfl, hcap, hbys⟩ := hbuf.bys
  have hc3 : Hid (Below B w w3) := Lib.hid ((hc2.alloc (by omega) _).trans (hb3.mono (by rw [World.size_alloc]; omega)))
  have HCV : Hid ((convert 22 9 (.slice p 7 cap)).run Tryd.prog w3 = .ok (.string ⟨#[123, 50, 125, 13, 10, 97, 98]⟩) w3) := Lib.hid (conv_bys (P := Tryd.prog) hbys cap Tryd.underlying22 Tryd.underlying5 Tryd.underlying9)
  clear hb3 hc2 hs2 hbuf hbys hcap
  go_wp2_with fail
  rw [HCV.out]
  simp only [Result.andThen]
  rw [Oper.upon_value]
  go_wp2_with fail
  go_ret
  exact ⟨rfl, hc3.out⟩
end Go.Proofs.YthoccgkkgnlbpaaDoor
