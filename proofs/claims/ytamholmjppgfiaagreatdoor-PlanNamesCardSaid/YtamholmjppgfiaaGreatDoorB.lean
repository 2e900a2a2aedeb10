/- The walks of package char and of its reference: classes of bytes, strings in a class. -/
import Derived.Test.YtamholmjppgfiaaGreatDoorA
import Derived.StillTailTactics
import Derived.Deep.RegionWith
import Derived.Deep.RegionHeld3
set_option linter.unusedVariables false
set_option linter.unusedSimpArgs false
namespace Go.Proofs.YtamholmjppgfiaaGreatDoor
open Go.RowKit

def textB (c : Int) : Bool := c != 0 && (decide (c < 128) && (c != 13 && c != 10))

theorem andNot32 (c : Int) (hc : 97 ≤ c) (hc2 : c ≤ 122) : bits BinOp.andNot IntKind.u8 c 32 = c - 32 := by
  have h : ∀ k : Fin 26, bits BinOp.andNot IntKind.u8 ((k.val : Int) + 97) 32 = (k.val : Int) + 97 - 32 := by decide +kernel
  have := h ⟨(c - 97).toNat, by omega⟩
  rwa [show (((⟨(c - 97).toNat, by omega⟩ : Fin 26).val : Int) + 97) = c from by simp; omega] at this
theorem upper2_yes (c : Int) (w : World) (hc : 97 ≤ c) (hc2 : c ≤ 122) :
    Calls Tryz.prog 60 #[.int .u8 c] w fun e w' => e = .returned (.int .u8 (c - 32)) ∧ w' = w := by
  go_enter Tryz.func60, Tryz.ntmps60
  go_wp2
  go_ret
  exact ⟨by rw [← andNot32 c hc hc2]; rfl, rfl⟩
theorem upper2_no (c : Int) (w : World) (hc : ¬ (97 ≤ c ∧ c ≤ 122)) :
    Calls Tryz.prog 60 #[.int .u8 c] w fun e w' => e = .returned (.int .u8 c) ∧ w' = w := by
  by_cases h1 : 97 ≤ c
  · have h2 : ¬ c ≤ 122 := by omega
    clear hc
    go_enter Tryz.func60, Tryz.ntmps60
    go_wp2
    go_ret
    exact ⟨rfl, rfl⟩
  · clear hc
    go_enter Tryz.func60, Tryz.ntmps60
    go_wp2
    go_ret
    exact ⟨rfl, rfl⟩


theorem take_all_no {α : Type} {q : α → Bool} {l : List α} {k : Nat} (hk : k < l.length) (h : q l[k] = false) : l.all q = false := by
  rw [List.all_eq_false]; exact ⟨_, List.getElem_mem hk, by simp [h]⟩
theorem take_all_yes {α : Type} {q : α → Bool} {l : List α} {k : Nat} (hk : k < l.length) (ht : (l.take k).all q = true) (h : q l[k] = true) : (l.take (k + 1)).all q = true := by
  rw [List.take_succ_eq_append_getElem hk, List.all_append, ht]; simp [h]
theorem byte_at (s : ByteArray) (k : Nat) (h : k < s.size) : s.data.toList[k]'(by simpa using h) = s[k] := rfl

theorem str_cases (s : ByteArray) : s = ⟨#[]⟩ ∨ (¬ s.toList = [] ∧ s.toList.isEmpty = false ∧ s.data.toList.isEmpty = false) := by
  rcases s with ⟨⟨l⟩⟩
  cases l with
  | nil => exact .inl rfl
  | cons a l => right; rw [ByteArray.toList_eq]; simp

def allS (p : Int → Bool) (s : ByteArray) : Bool := !s.data.toList.isEmpty && s.data.toList.all fun b => p b.toNat

end Go.Proofs.YtamholmjppgfiaaGreatDoor
