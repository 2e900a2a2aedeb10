/- resolve.Set: the ranges of the places of some identifiers. -/
import Derived.Test.YtlfpefebocepfaaGreatOfW
set_option linter.unusedVariables false
set_option linter.unusedSimpArgs false
namespace Go.Proofs.YtlfpefebocepfaaGreat
open Go Go.RowKit Go.Shelf Go.Lib Go.Sort

def posL (vl us : List Int) : List Int := us.map fun u => ((posU vl u : Nat) : Int)
theorem posL_len (vl us : List Int) : (posL vl us).length = us.length := List.length_map _
theorem posU_le (vl : List Int) (u : Int) : posU vl u ≤ vl.length + 1 := by
  unfold posU
  have := cntU_le vl u
  split <;> omega
theorem posL_in {vl us : List Int} (h : vl.length ≤ 1048576) : ∀ x ∈ posL vl us, 0 ≤ x ∧ x < 4294967296 := fun x hx => by
  obtain ⟨u, _, rfl⟩ := List.mem_map.1 hx
  have := posU_le vl u
  omega
set_option maxHeartbeats 1600000 in
theorem set_any (p : Option Addr) (vl us : List Int) (v : Value) (w : World) (hV : VwR w w.heap.size p vl) (ha : asc vl) (hvl : vl.length ≤ 1048576) (hU : U32 w w.heap.size v us) (hl : us.length ≤ 1048576) :
    Calls Tryz.prog 8 #[.pointer p, v] w fun e w' => ∃ v', e = .returned v' ∧ Buf w' w.heap.size 2 v' (grp (srtU (posL vl us))).length ((grp (srtU (posL vl us))).flatMap encP) ∧ Below w.heap.size w w' := by
  have HE := Lib.hid (fun W (hb : Below w.heap.size w W) => each3 p us (fun u => ((posU vl u : Nat) : Int)) v W ((Rd1.of_u32 (hU.below hb (Nat.le_refl _))).mono hb.size) hl (fun W2 x _ hb2 =>
    seq_any p x vl W2 ((hV.below (hb.trans (hb2.mono hb.size)) (Nat.le_refl _)).mono (by have := hb.size; have := hb2.size; omega)) ha hvl))
  have HL := Lib.hid (And.intro hvl hl)
  clear hV ha hvl hU hl
  go_enter Tryz.func8, Tryz.ntmps8
  go_wp2_with fail
  refine (HE.out _ (by first | exact Below.refl _ _ | exact (Below.refl _ _).alloc (Nat.le_refl _) _)).mono ?_
  rintro e w1 ⟨v1, rfl, hb1, hbel1⟩
  have hb1' : Buf w1 w.heap.size 1 v1 (posL vl us).length ((posL vl us).map (Value.int .u32)) := by
    rw [posL_len]
    unfold posL
    rw [List.map_map]
    exact hb1
  have HO := Lib.hid (of_any (posL vl us) v1 w1 (U32.of_buf hb1') (by rw [posL_len]; exact HL.out.2) (posL_in HL.out.1))
  have HB := Lib.hid hbel1
  clear hb1 hb1' hbel1
  go_wp2_with fail
  refine HO.out.mono ?_
  rintro e w2 ⟨v2, rfl, hb2, hbel2⟩
  have H2 := Lib.hid (And.intro hb2 hbel2)
  clear hb2 hbel2
  go_wp2_with fail
  go_ret
  exact ⟨v2, rfl, H2.out.1.mono HB.out.size, HB.out.trans (H2.out.2.mono HB.out.size)⟩
end Go.Proofs.YtlfpefebocepfaaGreat
