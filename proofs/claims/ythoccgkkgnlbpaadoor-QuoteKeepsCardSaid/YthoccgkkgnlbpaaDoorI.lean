/- The walk of package char's Number. -/
import Derived.Test.YthoccgkkgnlbpaaDoorG
import Derived.Test.YthoccgkkgnlbpaaDoorH
namespace Go.Proofs.YthoccgkkgnlbpaaDoor
open Go.RowKit

theorem number_err (s : ByteArray) (v : Int) (w : World) (H : Calls Tryd.prog 41 #[.string s, .int .i64 10, .int .i64 32] w fun e w' => ∃ N, e = .returned (.tuple #[.int .u64 v, .iface 78 (.pointer (some ⟨N, 0, none⟩))]) ∧ Below w.heap.size w w') :
    Calls Tryd.prog 26 #[.string s] w fun e w' => e = .returned (.tuple #[.int .u32 0, .bool false]) ∧ Below w.heap.size w w' := by
  have HH := Lib.hid H
  clear H
  go_enter Tryd.func26, Tryd.ntmps26
  go_wp2_with (go_at_call 41; refine HH.out.mono ?_; rintro e w' ⟨N, rfl, hb⟩)
  go_ret2
  exact ⟨rfl, hb⟩

theorem numV_none : numV none = .tuple #[.int .u32 0, .bool false] := rfl
theorem numV_some (u : Nat) : numV (some u) = .tuple #[.int .u32 u, .bool true] := rfl

set_option maxRecDepth 100000 in
set_option maxHeartbeats 400000 in
theorem number_any (s : ByteArray) (w : World) (hs : s.size ≤ 1048576) (hS : Std w) :
    Calls Tryd.prog 26 #[.string s] w fun e w' => e = .returned (numV (numB s.data.toList)) ∧ Below w.heap.size w w' := by
  rcases hp : Lib.parseUintB 32 s.data.toList with u | _ | _
  rotate_left
  · rw [numB_none_of_parse (by rw [hp]; rintro u ⟨⟩), numV_none]
    obtain ⟨t, p, hv⟩ := hS.syn
    exact number_err s 0 w ((Any.strconv_ParseUint_10_at32_syntax_var Tryd.laysPu14 s (by omega) hp t p w hv).mono fun e w' ⟨N, he, _, _, hb⟩ => ⟨N, he, hb⟩)
  · rw [numB_none_of_parse (by rw [hp]; rintro u ⟨⟩), numV_none]
    obtain ⟨t, p, hv⟩ := hS.rng
    exact number_err s 4294967295 w ((Tryd.strconv_ParseUint_10_at32_range_var s (by omega) hp t p w hv).mono fun e w' ⟨N, he, _, _, hb⟩ => ⟨N, he, hb⟩)
  · have hu : u < 4294967296 := by have := Lib.parseUintB_le hp; simp at this; omega
    have H28 := Lib.hid (Tryd.strconv_ParseUint_10_at32_ok s (by omega) u hp w)
    have hN := numB_of_parse hp
    have hbw := Lib.bytesWorld_below w 5 s
    clear hp
    have H21 : Hid (∀ w', Below w.heap.size w w' → Calls Tryd.prog 33 #[.int .u32 u] w' fun e w'' => e = .returned (.string (ofL (Lib.decDigits u))) ∧ Below w.heap.size w w'') :=
      Lib.hid fun w' hb => (decimal_any u w' hu (hS.below hb)).mono fun e w'' ⟨he, hb2⟩ => ⟨he, hb.trans (hb2.mono hb.size)⟩
    clear hS
    generalize hx : ofL (Lib.decDigits u) = x at H21
    have HBW := Lib.hid hbw
    clear hbw
    by_cases he : x.toList = s.toList
    · have R : Hid (numB s.data.toList = some u) := Lib.hid (by
        rw [ByteArray.toList_eq, ByteArray.toList_eq, ← hx, ofL_data] at he
        rw [hN, if_pos he])
      have e1 : (x.toList == s.toList) = true := by rw [beq_iff_eq]; exact he
      have e2 : (x.toList != s.toList) = false := by rw [bne, e1]; rfl
      rw [R.out, numV_some]
      clear hx he hN
      go_enter Tryd.func26, Tryd.ntmps26
      go_wp2_with fail
      refine H28.out.mono ?_
      rintro e w' ⟨rfl, hw⟩
      have hb : Below w.heap.size w w' := by
        rcases hw with rfl | rfl
        · exact Below.refl _ _
        · exact HBW.out
      clear hw
      go_wp2_with fail
      refine (H21.out _ hb).mono ?_
      rintro e w2 ⟨rfl, hb2⟩
      go_wp2_with fail
      go_ret2
      exact ⟨rfl, hb2⟩
    · have R : Hid (numB s.data.toList = none) := Lib.hid (by
        have hne : Lib.decDigits u ≠ s.data.toList := fun h => he (by rw [ByteArray.toList_eq, ByteArray.toList_eq, ← hx, ofL_data]; exact h)
        rw [hN, if_neg hne])
      have e1 : (x.toList == s.toList) = false := by rw [beq_eq_false_iff_ne]; exact he
      have e2 : (x.toList != s.toList) = true := by rw [bne, e1]; rfl
      rw [R.out, numV_none]
      clear hx he hN
      go_enter Tryd.func26, Tryd.ntmps26
      go_wp2_with fail
      refine H28.out.mono ?_
      rintro e w' ⟨rfl, hw⟩
      have hb : Below w.heap.size w w' := by
        rcases hw with rfl | rfl
        · exact Below.refl _ _
        · exact HBW.out
      clear hw
      go_wp2_with fail
      refine (H21.out _ hb).mono ?_
      rintro e w2 ⟨rfl, hb2⟩
      go_wp2_with fail
      go_ret2
      exact ⟨rfl, hb2⟩
end Go.Proofs.YthoccgkkgnlbpaaDoor
