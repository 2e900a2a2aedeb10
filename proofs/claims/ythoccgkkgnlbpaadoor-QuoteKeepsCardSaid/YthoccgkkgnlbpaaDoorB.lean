/- The walks of package char and of its reference: classes of bytes, strings in a class. -/
import Derived.Test.YthoccgkkgnlbpaaDoorA
import Derived.StillTailTactics
import Derived.Deep.RegionWith
import Derived.Deep.RegionHeld3
namespace Go.Proofs.YthoccgkkgnlbpaaDoor
open Go.RowKit

def textB (c : Int) : Bool := c != 0 && (decide (c < 128) && (c != 13 && c != 10))

set_option maxRecDepth 100000 in
set_option maxHeartbeats 400000 in
theorem text_any (c : Int) (w : World) (hc : 0 ≤ c) (hc2 : c < 256) :
    Calls Tryd.prog 30 #[.int .u8 c] w fun e w' => e = .returned (.bool (textB c)) ∧ w' = w := by
  by_cases h0 : c = 0
  · subst h0
    go_enter Tryd.func30, Tryd.ntmps30
    go_wp2
    go_ret
    exact ⟨rfl, rfl⟩
  have e0 : (c != 0) = true := by simpa using h0
  by_cases h1 : c < 128
  · have e1 : decide (c < 128) = true := by simpa using h1
    by_cases h2 : c = 13
    · subst h2
      go_enter Tryd.func30, Tryd.ntmps30
      go_wp2
      go_ret
      exact ⟨rfl, rfl⟩
    have e2 : (c != 13) = true := by simpa using h2
    have hI : Hid (textB c = (c != 10)) := Lib.hid (by unfold textB; rw [e0, e1, e2]; simp)
    go_enter Tryd.func30, Tryd.ntmps30
    go_wp2
    go_ret
    exact ⟨by rw [hI.out]; rfl, rfl⟩
  · have e1 : decide (c < 128) = false := by simpa using h1
    have hI : Hid (textB c = false) := Lib.hid (by unfold textB; rw [e1]; simp)
    go_enter Tryd.func30, Tryd.ntmps30
    go_wp2
    go_ret
    exact ⟨by rw [hI.out]; rfl, rfl⟩

theorem andNot32 (c : Int) (hc : 97 ≤ c) (hc2 : c ≤ 122) : bits BinOp.andNot IntKind.u8 c 32 = c - 32 := by
  have h : ∀ k : Fin 26, bits BinOp.andNot IntKind.u8 ((k.val : Int) + 97) 32 = (k.val : Int) + 97 - 32 := by decide +kernel
  have := h ⟨(c - 97).toNat, by omega⟩
  rwa [show (((⟨(c - 97).toNat, by omega⟩ : Fin 26).val : Int) + 97) = c from by simp; omega] at this
theorem take_all_no {α : Type} {q : α → Bool} {l : List α} {k : Nat} (hk : k < l.length) (h : q l[k] = false) : l.all q = false := by
  rw [List.all_eq_false]; exact ⟨_, List.getElem_mem hk, by simp [h]⟩
theorem take_all_yes {α : Type} {q : α → Bool} {l : List α} {k : Nat} (hk : k < l.length) (ht : (l.take k).all q = true) (h : q l[k] = true) : (l.take (k + 1)).all q = true := by
  rw [List.take_succ_eq_append_getElem hk, List.all_append, ht]; simp [h]
theorem byte_at (s : ByteArray) (k : Nat) (h : k < s.size) : s.data.toList[k]'(by simpa using h) = s[k] := rfl

theorem str_cases (s : ByteArray) : s = ⟨#[]⟩ ∨ (¬ s.toList = [] ∧ s.toList.isEmpty = false ∧ s.data.toList.isEmpty = false) := by
  rcases s with ⟨⟨l⟩⟩
  cases l with
  | nil => exact .inl rfl
  | cons a l => right; rw [ByteArray.toList_eq]; simp

def allS (p : Int → Bool) (s : ByteArray) : Bool := !s.data.toList.isEmpty && s.data.toList.all fun b => p b.toNat

end Go.Proofs.YthoccgkkgnlbpaaDoor
