/- The walks of token.Name and of the reference's Name; the walk of the law TokenNames. -/
import Derived.Test.YtkifhgnoadmfkaaDoorJ13
import Derived.Test.YtkifhgnoadmfkaaDoorFld
set_option linter.unusedVariables false
set_option linter.unusedSimpArgs false
namespace Go.Proofs.YtkifhgnoadmfkaaDoor
open Go.RowKit

def kinds : List (List UInt8) := [[101, 110, 100], [115, 112, 97, 99, 101], [111, 112, 101, 110], [99, 108, 111, 115, 101], [119, 111, 114, 100], [113, 117, 111, 116, 101, 100], [108, 105, 116, 101, 114, 97, 108]]
def nameT (x : Int) : List UInt8 := if 0 ≤ x ∧ x < 7 then kinds.getD x.toNat [] else []

set_option maxRecDepth 100000 in
set_option maxHeartbeats 1600000 in
theorem tokName_any (x : Int) (hx : -9223372036854775808 ≤ x ∧ x ≤ 9223372036854775807) (w : World) (hS : StdA w) :
    Calls Tryd.prog 17 #[.int .i64 x] w fun e w' => e = .returned (.string (ofL (nameT x))) ∧ Below w.heap.size w w' := by
  have HF := Lib.hid (fields_at ⟨#[101, 110, 100, 32, 115, 112, 97, 99, 101, 32, 111, 112, 101, 110, 32, 99, 108, 111, 115, 101, 32, 119, 111, 114, 100, 32, 113, 117, 111, 116, 101, 100, 32, 108, 105, 116, 101, 114, 97, 108]⟩ kinds w hS (by decide) (by decide) (by decide +kernel))
  clear hS
  by_cases h0 : 0 ≤ x
  · by_cases h7 : x < 7
    · have R : nameT x = kinds.getD x.toNat [] := by unfold nameT; rw [if_pos ⟨h0, h7⟩]
      obtain ⟨n, rfl⟩ := Int.eq_ofNat_of_zero_le h0
      have hn : n < 7 := by omega
      rw [R, Int.toNat_natCast]
      obtain ⟨s, hs⟩ : ∃ s, ofL (kinds.getD n []) = s := ⟨_, rfl⟩
      have HSS := Lib.hid hs
      rw [hs]
      clear R h0 hx hs
      go_enter Tryd.func17, Tryd.ntmps17
      go_wp2_with fail
      refine HF.out.mono ?_
      rintro e w1 ⟨rfl, hblk, hb⟩
      have HB := Lib.hid hb
      have hc : w1.cell? ⟨w.heap.size, n, none⟩ = some (.string s) := by
        rw [← HSS.out, hblk.cell, strsV_at _ _ (show n < kinds.length from hn)]
        rw [List.getD_eq_getElem?_getD, List.getElem?_eq_getElem (show n < kinds.length from hn)]; rfl
      clear hblk hb HF
      rw [show kinds.length = 7 from rfl]
      have h0 : (0 : Int) ≤ n := by omega
      go_wp2_with fail
      go_ret
      exact ⟨rfl, HB.out⟩
    · have R : nameT x = [] := by unfold nameT; rw [if_neg (by omega)]
      rw [R]
      have h8 : (7 : Int) ≤ x := by omega
      clear R h7
      go_enter Tryd.func17, Tryd.ntmps17
      go_wp2_with fail
      refine HF.out.mono ?_
      rintro e w1 ⟨rfl, hblk, hb⟩
      have HB := Lib.hid hb
      clear hblk hb HF
      rw [show kinds.length = 7 from rfl]
      go_wp2_with fail
      go_ret
      exact ⟨rfl, HB.out⟩
  · have R : nameT x = [] := by unfold nameT; rw [if_neg (by omega)]
    rw [R]
    have h8 : x < 0 := by omega
    have hd : decide (0 ≤ x) = false := decide_eq_false (by omega)
    clear R h0
    go_enter Tryd.func17, Tryd.ntmps17
    go_wp2_with fail
    refine HF.out.mono ?_
    rintro e w1 ⟨rfl, hblk, hb⟩
    have HB := Lib.hid hb
    clear hblk hb HF
    rw [show kinds.length = 7 from rfl]
    go_wp2_with fail
    go_ret
    exact ⟨rfl, HB.out⟩

set_option maxRecDepth 100000 in
set_option maxHeartbeats 1600000 in
theorem rTokName_any (x : Int) (w : World) :
    Calls Tryd.prog 18 #[.int .i64 x] w fun e w' => e = .returned (.string (ofL (nameT x))) ∧ Below w.heap.size w w' := by
  by_cases h0 : 0 ≤ x
  · by_cases h7 : x < 7
    · obtain rfl | rfl | rfl | rfl | rfl | rfl | rfl : x = 0 ∨ x = 1 ∨ x = 2 ∨ x = 3 ∨ x = 4 ∨ x = 5 ∨ x = 6 := by omega
      all_goals
        clear h0 h7
        go_enter Tryd.func18, Tryd.ntmps18
        go_wp2_with fail
        go_ret
        exact ⟨rfl, (Below.refl _ _).alloc (Nat.le_refl _) _⟩
    · have R : nameT x = [] := by unfold nameT; rw [if_neg (by omega)]
      rw [R]
      have h8 : (6 : Int) < x := by omega
      have hd : decide (x < 0) = false := decide_eq_false (by omega)
      clear R h7
      go_enter Tryd.func18, Tryd.ntmps18
      go_wp2_with fail
      go_ret
      exact ⟨rfl, Below.refl _ _⟩
  · have R : nameT x = [] := by unfold nameT; rw [if_neg (by omega)]
    rw [R]
    have h8 : x < 0 := by omega
    clear R h0
    go_enter Tryd.func18, Tryd.ntmps18
    go_wp2_with fail
    go_ret
    exact ⟨rfl, Below.refl _ _⟩

set_option maxRecDepth 100000 in
theorem tokenNames_walk (x : Int) (w : World) (hx : -9223372036854775808 ≤ x ∧ x ≤ 9223372036854775807) (hS : Std w) (hSA : StdA w) :
    Calls Tryd.prog 7 #[.int .i64 x] w fun e w' => e = .returned (.bool true) ∧ Below w.heap.size w w' := by
  have HA := Lib.hid (alive06_walk w hS)
  have H1 := Lib.hid (fun w1 (hb : Below w.heap.size w w1) => tokName_any x hx w1 (hSA.below hb))
  have H2 := Lib.hid (fun w1 => rTokName_any x w1)
  generalize ofL (nameT x) = s at H1 H2
  clear hS hSA
  go_enter Tryd.func7, Tryd.ntmps7
  go_wp2_with fail
  refine HA.out.mono ?_
  rintro e w1 ⟨rfl, b1⟩
  have HB1 := Lib.hid b1
  clear b1
  go_wp2_with fail
  refine (H1.out _ HB1.out).mono ?_
  rintro e w2 ⟨rfl, b2⟩
  have HB2 := Lib.hid (HB1.out.trans (b2.mono HB1.out.size))
  clear b2
  go_wp2_with fail
  refine (H2.out _).mono ?_
  rintro e w3 ⟨rfl, b3⟩
  have HB3 := Lib.hid (HB2.out.trans (b3.mono HB2.out.size))
  clear b3
  go_wp2_with fail
  go_ret
  exact ⟨rfl, HB3.out⟩
end Go.Proofs.YtkifhgnoadmfkaaDoor
