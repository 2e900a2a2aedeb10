/- slices.Equal over numbers. -/
import Derived.Test.YtpcffnhbodjpbaaGreatDoorResW
import Derived.Test.YtpcffnhbodjpbaaGreatDoorShelf
set_option linter.unusedVariables false
set_option linter.unusedSimpArgs false
namespace Go.Proofs.YtpcffnhbodjpbaaGreatDoor
open Go Go.RowKit Go.Shelf Go.Lib Go.Sort

theorem allEq_dec : ∀ (xs ys : List Int), allEq (fun x y : Int => decide (x = y)) xs ys = decide (xs = ys)
  | [], [] => rfl
  | [], _ :: _ => by simp [allEq]
  | _ :: _, [] => by simp [allEq]
  | x :: xs, y :: ys => by
    unfold allEq
    rw [allEq_dec xs ys, Bool.eq_iff_iff]
    simp only [Bool.and_eq_true, decide_eq_true_eq, List.cons.injEq]

set_option maxHeartbeats 1600000 in
theorem eq_u32 {B1 B2 : Nat} {v1 v2 : Value} {xs ys : List Int} {W : World} (h1 : Rd1 W B1 v1 (xs.map (Value.int .u32))) (h2 : Rd1 W B2 v2 (ys.map (Value.int .u32))) (hx : xs.length ≤ 1048576) (hy : ys.length ≤ 1048576) :
    Calls Tryz.prog 16 #[v1, v2] W fun e w' => e = .returned (.bool (decide (xs = ys))) ∧ ∃ q, w' = W.drewN q := by
  obtain ⟨A1, cap1, rfl, -, hc1⟩ := h1
  obtain ⟨A2, cap2, rfl, -, hc2⟩ := h2
  rw [List.length_map] at hc1 ⊢
  rw [List.length_map] at hc2 ⊢
  by_cases hlen : xs.length = ys.length
  · rcases Nat.eq_zero_or_pos xs.length with h0 | h0
    · have e1 : xs = [] := List.eq_nil_of_length_eq_zero h0
      have e2 : ys = [] := List.eq_nil_of_length_eq_zero (by omega)
      subst e1 e2
      clear hc1 hc2 hlen h0 hx hy
      simp only [List.length_nil]
      go_enter Tryz.func16, Tryz.ntmps16
      go_wp2_with fail
      go_loopw [13] (fun i wr => i = .int .i64 0 ∧ wr = W) (fun _ _ => 0)
      case atStart => exact ⟨rfl, rfl⟩
      case round =>
        obtain ⟨rfl, rfl⟩ := hrel
        go_wp2_with fail
        go_ret
        exact ⟨by simp, 0, rfl⟩
    · obtain ⟨b1, o1, rfl, -, hd1⟩ := hc1 h0
      obtain ⟨b2, o2, rfl, -, hd2⟩ := hc2 (by omega)
      have hcon := Tryz.slices_Equal (Value.int .u32) (fun x y : Int => decide (x = y)) (.intD _ _ _) b1 o1 xs.length cap1 b2 o2 ys.length cap2 xs ys W (Nat.le_refl _) (Nat.le_refl _) (by omega) (by omega)
        (fun j hj => hd1 j _ (by rw [List.getElem?_map, List.getElem?_eq_getElem hj, getElem!_pos xs j hj]; rfl)) (fun j hj => hd2 j _ (by rw [List.getElem?_map, List.getElem?_eq_getElem hj, getElem!_pos ys j hj]; rfl))
      rw [List.take_length, List.take_length, allEq_dec] at hcon
      exact hcon
  · have hne : ¬ ((xs.length : Int) = ys.length) := by omega
    have hd : decide (xs = ys) = false := decide_eq_false (fun e => hlen (by rw [e]))
    rw [hd]
    clear hd hc1 hc2 hlen
    generalize xs.length = n at *
    generalize ys.length = m at *
    have hnb : ((n : Int) == (m : Int)) = false := by simpa using hne
    go_enter Tryz.func16, Tryz.ntmps16
    go_wp2_with fail
    go_ret
    exact ⟨rfl, 0, rfl⟩

end Go.Proofs.YtpcffnhbodjpbaaGreatDoor
