/- The walks of the reference of package char: classes, strings in a class. -/
import Derived.Test.YthoccgkkgnlbpaaDoorC
namespace Go.Proofs.YthoccgkkgnlbpaaDoor
open Go.RowKit

theorem atomB_tab : ∀ c : Fin 256, atomB c.val = (!(([40, 41, 123, 37, 42, 34, 92, 93] : List Int).contains c.val) && (decide (32 < (c.val : Int)) && decide ((c.val : Int) < 127))) := by decide +kernel
theorem atomB_ref (c : Int) (hc : 0 ≤ c) (hc2 : c < 256) : atomB c = (!(([40, 41, 123, 37, 42, 34, 92, 93] : List Int).contains c) && (decide (32 < c) && decide (c < 127))) := by
  have := atomB_tab ⟨c.toNat, by omega⟩
  simp only [Int.toNat_of_nonneg hc] at this
  exact this

set_option maxRecDepth 100000 in
set_option maxHeartbeats 400000 in
theorem rText_any (c : Int) (w : World) (hc : 0 ≤ c) (hc2 : c < 256) :
    Calls Tryd.prog 32 #[.int .u8 c] w fun e w' => e = .returned (.bool (textB c)) ∧ w' = w := by
  by_cases h0 : 0 < c
  · have e0 : (c != 0) = true := by rw [bne_iff_ne]; omega
    by_cases h1 : c < 128
    · by_cases h2 : c = 10
      · subst h2
        go_enter Tryd.func32, Tryd.ntmps32
        go_wp2
        go_ret
        exact ⟨rfl, rfl⟩
      have e2 : (c != 10) = true := by rw [bne_iff_ne]; omega
      have e1 : decide (c < 128) = true := by simpa using h1
      have R : Hid (textB c = (c != 13)) := Lib.hid (by unfold textB; rw [e0, e1, e2]; simp)
      clear e1
      go_enter Tryd.func32, Tryd.ntmps32
      go_wp2
      go_ret
      exact ⟨by rw [R.out]; rfl, rfl⟩
    · have e1 : decide (c < 128) = false := by simpa using h1
      have R : Hid (textB c = false) := Lib.hid (by unfold textB; rw [e1]; simp)
      clear e1
      go_enter Tryd.func32, Tryd.ntmps32
      go_wp2
      go_ret
      exact ⟨by rw [R.out]; rfl, rfl⟩
  · obtain rfl : c = 0 := by omega
    go_enter Tryd.func32, Tryd.ntmps32
    go_wp2
    go_ret
    exact ⟨rfl, rfl⟩

end Go.Proofs.YthoccgkkgnlbpaaDoor
