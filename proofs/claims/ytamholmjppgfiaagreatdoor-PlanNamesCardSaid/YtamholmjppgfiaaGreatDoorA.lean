/- The walks of package char: the class of atom bytes. -/
import Derived.Test.YtamholmjppgfiaaGreatDoorProg
import Derived.Test.YtamholmjppgfiaaGreatDoorBase
set_option linter.unusedVariables false
set_option linter.unusedSimpArgs false
namespace Go.Proofs.YtamholmjppgfiaaGreatDoor
open Go.RowKit

def word (k : Nat) : List Int :=
  match k with
  | 0 => [0, 0, 0, 0]
  | 1 => [1099511627776, 0, 0, 0]
  | 2 => [3298534883328, 0, 0, 0]
  | 3 => [3298534883328, 576460752303423488, 0, 0]
  | 4 => [3435973836800, 576460752303423488, 0, 0]
  | 5 => [7834020347904, 576460752303423488, 0, 0]
  | 6 => [7851200217088, 576460752303423488, 0, 0]
  | 7 => [7851200217088, 576460752571858944, 0, 0]
  | _ => [7851200217088, 576460753108729856, 0, 0]
def cells64 (l : List Int) : Array Value := (l.map (Value.int .u64)).toArray

def sp : ByteArray := ⟨#[40, 41, 123, 37, 42, 34, 92, 93]⟩
theorem sp_step (k : Nat) (hk : k < 8) : word (k + 1) = (word k).set ((sp.data.getD k 0).toNat / 64) (bits .or .u64 ((word k).getD ((sp.data.getD k 0).toNat / 64) 0) (IntKind.u64.wrap (2 ^ ((sp.data.getD k 0).toNat % 64)))) := by
  have h : ∀ k : Fin 8, word (k.val + 1) = (word k.val).set ((sp.data.getD k.val 0).toNat / 64) (bits .or .u64 ((word k.val).getD ((sp.data.getD k.val 0).toNat / 64) 0) (IntKind.u64.wrap (2 ^ ((sp.data.getD k.val 0).toNat % 64)))) := by decide +kernel
  exact h ⟨k, hk⟩

def inSet (c : Int) : Bool := bits BinOp.and IntKind.u64 ((word 8).getD (c / 64).toNat 0 / 2 ^ (c % 64).toNat) 1 == 1

def atomB (c : Int) : Bool := decide (32 < c) && decide (c ≤ 126) && !inSet c

theorem word_len (k : Nat) : (word k).length = 4 := by unfold word; split <;> rfl
theorem sp_lt (k : Nat) (hk : k < 8) : (sp.data.getD k 0).toNat / 64 < 4 := by
  have := (sp.data.getD k 0).toNat_lt; omega
theorem cells64_at (l : List Int) (j : Nat) (hj : j < l.length) : (cells64 l)[j]? = some (.int .u64 (l.getD j 0)) := by
  simp [cells64, hj]
theorem cells64_set (l : List Int) (j : Nat) (v : Int) : (cells64 l).setIfInBounds j (.int .u64 v) = cells64 (l.set j v) := by
  simp [cells64, List.map_set]


theorem sp_get (k : Nat) (hk : k < 8) : (({ data := #[40, 41, 123, 37, 42, 34, 92, 93] } : ByteArray)[k]'hk).toNat = (sp.data.getD k 0).toNat := by
  rw [Array.getD_eq_getD_getElem?, Array.getElem?_eq_getElem (show k < sp.data.size from hk)]; rfl
theorem atomB_in (c : Int) (h1 : 32 < c) (h2 : c ≤ 126) (b : Bool) (h : inSet c = b) : atomB c = !b := by
  simp [atomB, h1, h2, h]
theorem atomB_hi (c : Int) (h2 : ¬ c ≤ 126) : atomB c = false := by simp [atomB, h2]
theorem atomB_lo (c : Int) (h2 : ¬ 32 < c) : atomB c = false := by simp [atomB, h2]

def tagB (c : Int) : Bool := (c == 93) || (!(c == 43) && atomB c)
end Go.Proofs.YtamholmjppgfiaaGreatDoor
