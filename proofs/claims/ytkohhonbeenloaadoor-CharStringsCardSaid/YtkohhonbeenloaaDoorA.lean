/- The walks of package char: the class of atom bytes. -/
import Derived.Test.YtkohhonbeenloaaDoorProg
import Derived.Test.YtkohhonbeenloaaDoorBase
namespace Go.Proofs.YtkohhonbeenloaaDoor
open Go.RowKit

def word (k : Nat) : List Int :=
  match k with
  | 0 => [0, 0, 0, 0]
  | 1 => [1099511627776, 0, 0, 0]
  | 2 => [3298534883328, 0, 0, 0]
  | 3 => [3298534883328, 576460752303423488, 0, 0]
  | 4 => [3435973836800, 576460752303423488, 0, 0]
  | 5 => [7834020347904, 576460752303423488, 0, 0]
  | 6 => [7851200217088, 576460752303423488, 0, 0]
  | 7 => [7851200217088, 576460752571858944, 0, 0]
  | _ => [7851200217088, 576460753108729856, 0, 0]
def cells64 (l : List Int) : Array Value := (l.map (Value.int .u64)).toArray

set_option maxHeartbeats 400000 in
theorem add_any (b j : Nat) (c v x : Int) (w : World) (hc : 0 ≤ c) (hc2 : c < 256) (hj : (c / 64).toNat = j) (hv : bits .or .u64 v (IntKind.u64.wrap (2 ^ (c % 64).toNat)) = x)
    (hx : w.cell? ⟨b, j, none⟩ = some (.int .u64 v)) (hf : w.frozen? ⟨b, j, none⟩ = false) :
    Calls Tryd.prog 36 #[.pointer (some ⟨b, 0, none⟩), .int .u8 c] w fun e w' => e = .returned (.tuple #[]) ∧
      w' = (w.setCell ⟨b, j, none⟩ (.int .u64 x)).drew := by
  subst hv
  go_enter Tryd.func36, Tryd.ntmps36
  go_wp2
  go_region
  go_end0
  exact ⟨rfl, rfl⟩

def sp : ByteArray := ⟨#[40, 41, 123, 37, 42, 34, 92, 93]⟩
theorem sp_step (k : Nat) (hk : k < 8) : word (k + 1) = (word k).set ((sp.data.getD k 0).toNat / 64) (bits .or .u64 ((word k).getD ((sp.data.getD k 0).toNat / 64) 0) (IntKind.u64.wrap (2 ^ ((sp.data.getD k 0).toNat % 64)))) := by
  have h : ∀ k : Fin 8, word (k.val + 1) = (word k.val).set ((sp.data.getD k.val 0).toNat / 64) (bits .or .u64 ((word k.val).getD ((sp.data.getD k.val 0).toNat / 64) 0) (IntKind.u64.wrap (2 ^ ((sp.data.getD k.val 0).toNat % 64)))) := by decide +kernel
  exact h ⟨k, hk⟩

def inSet (c : Int) : Bool := bits BinOp.and IntKind.u64 ((word 8).getD (c / 64).toNat 0 / 2 ^ (c % 64).toNat) 1 == 1

set_option maxHeartbeats 400000 in
theorem has_any (l : List Int) (c v : Int) (b : Bool) (w : World) (hc : 0 ≤ c) (hc2 : c < 256) (hl : l.length = 4) (hv : l[(c / 64).toNat]? = some v) (hb : (bits BinOp.and IntKind.u64 (v / 2 ^ (c % 64).toNat) 1 == 1) = b) :
    Calls Tryd.prog 37 #[.agg (cells64 l), .int .u8 c] w fun e w' => e = .returned (.bool b) ∧ Below w.heap.size w w' := by
  subst hb
  have hv' : (l.map (Value.int .u64))[(c / 64).toNat]? = some (.int .u64 v) := by simp [hv]
  unfold cells64
  clear hv
  match l, hl with
  | [a0, a1, a2, a3], _ =>
  simp only [List.map_cons, List.map_nil] at hv' ⊢
  go_enter Tryd.func37, Tryd.ntmps37
  go_wp2
  all_goals go_ret
  exact ⟨rfl, (Below.refl _ _).alloc (Nat.le_refl _) _⟩


def atomB (c : Int) : Bool := decide (32 < c) && decide (c ≤ 126) && !inSet c

theorem word_len (k : Nat) : (word k).length = 4 := by unfold word; split <;> rfl
theorem sp_lt (k : Nat) (hk : k < 8) : (sp.data.getD k 0).toNat / 64 < 4 := by
  have := (sp.data.getD k 0).toNat_lt; omega
theorem cells64_at (l : List Int) (j : Nat) (hj : j < l.length) : (cells64 l)[j]? = some (.int .u64 (l.getD j 0)) := by
  simp [cells64, hj]
theorem cells64_set (l : List Int) (j : Nat) (v : Int) : (cells64 l).setIfInBounds j (.int .u64 v) = cells64 (l.set j v) := by
  simp [cells64, List.map_set]


theorem sp_get (k : Nat) (hk : k < 8) : (({ data := #[40, 41, 123, 37, 42, 34, 92, 93] } : ByteArray)[k]'hk).toNat = (sp.data.getD k 0).toNat := by
  rw [Array.getD_eq_getD_getElem?, Array.getElem?_eq_getElem (show k < sp.data.size from hk)]; rfl
theorem atomB_in (c : Int) (h1 : 32 < c) (h2 : c ≤ 126) (b : Bool) (h : inSet c = b) : atomB c = !b := by
  simp [atomB, h1, h2, h]
theorem atomB_hi (c : Int) (h2 : ¬ c ≤ 126) : atomB c = false := by simp [atomB, h2]
theorem atomB_lo (c : Int) (h2 : ¬ 32 < c) : atomB c = false := by simp [atomB, h2]

set_option maxHeartbeats 400000 in
theorem isAtom_any (c : Int) (w : World) (hc : 0 ≤ c) (hc2 : c < 256) :
    Calls Tryd.prog 29 #[.int .u8 c] w fun e w' => e = .returned (.bool (atomB c)) ∧ Below w.heap.size w w' := by
  go_enter Tryd.func29, Tryd.ntmps29
  go_wp2
  go_loopw [5] (fun i wr => ∃ k : Nat, k ≤ 8 ∧ i = .int .i64 k ∧ Blk wr w.heap.size 46 (cells64 (word k)) ∧ Below w.heap.size w wr) (fun i _ => 8 - (intOf i).toNat)
  case atStart => exact ⟨0, by omega, rfl, Blk.made _ _ _, (Below.refl _ _).alloc (Nat.le_refl _) _⟩
  case round =>
    obtain ⟨k, hk, rfl, hb, hw⟩ := hrel
    by_cases hlt : k < 8
    · go_wp2_with fail
      rw [sp_get k hlt]
      have hj := sp_lt k hlt
      have hl : (sp.data.getD k 0).toNat / 64 < (word k).length := by rw [word_len]; exact hj
      have h1 := hb.put ((sp.data.getD k 0).toNat / 64) (.int .u64 (bits .or .u64 ((word k).getD ((sp.data.getD k 0).toNat / 64) 0) (IntKind.u64.wrap (2 ^ ((sp.data.getD k 0).toNat % 64)))))
      rw [cells64_set, ← sp_step k hlt] at h1
      have hcell := hb.cell ((sp.data.getD k 0).toNat / 64)
      rw [cells64_at _ _ hl] at hcell
      have hcu := (sp.data.getD k 0).toNat_lt
      clear hl
      generalize (word k).getD ((sp.data.getD k 0).toNat / 64) 0 = v at h1 hcell
      generalize (sp.data.getD k 0).toNat = u at h1 hcell hcu hj
      refine (add_any _ (u / 64) _ v _ _ (by omega) (by omega) (by omega) rfl hcell (hb.frz _)).mono ?_
      rw [show ((u : Int) % 64).toNat = u % 64 from by omega]
      generalize bits .or .u64 v (IntKind.u64.wrap (2 ^ (u % 64))) = x at h1
      rintro e w1 ⟨rfl, rfl⟩
      go_wp2_with fail
      go_roundw
      case rel => exact ⟨k + 1, by omega, by go_num, h1.drew, ((hw.setCell (Nat.le_refl _) _).drew)⟩
      case measure => simp [intOf]; omega
    · obtain rfl : k = 8 := by omega
      have hc0 : wr.cell? ⟨w.heap.size, 0, none⟩ = some (.int .u64 7851200217088) := by rw [hb.cell]; rfl
      have hc1 : wr.cell? ⟨w.heap.size, 1, none⟩ = some (.int .u64 576460753108729856) := by rw [hb.cell]; rfl
      have hc2' : wr.cell? ⟨w.heap.size, 2, none⟩ = some (.int .u64 0) := by rw [hb.cell]; rfl
      have hc3 : wr.cell? ⟨w.heap.size, 3, none⟩ = some (.int .u64 0) := by rw [hb.cell]; rfl
      by_cases h1 : 32 < c
      · by_cases h2 : c ≤ 126
        · go_wp2_with fail
          have hlt : (c / 64).toNat < (word 8).length := by rw [word_len]; omega
          refine (has_any (word 8) c ((word 8).getD (c / 64).toNat 0) (inSet c) _ hc hc2 (word_len 8) (by simp [hlt]) rfl).mono ?_
          rintro e w1 ⟨rfl, hb1⟩
          have hI := Lib.hid (atomB_in c h1 h2 _ rfl)
          go_wp2_with fail
          go_ret
          exact ⟨by rw [hI.out]; rfl, hw.trans (hb1.mono hw.size)⟩
        · have hI := Lib.hid (atomB_hi c h2)
          go_wp2_with fail
          go_ret
          exact ⟨by rw [hI.out]; rfl, hw⟩
      · have hI := Lib.hid (atomB_lo c h1)
        go_wp2_with fail
        go_ret
        exact ⟨by rw [hI.out]; rfl, hw⟩

theorem atom_any (c : Int) (w : World) (hc : 0 ≤ c) (hc2 : c < 256) :
    Calls Tryd.prog 12 #[.int .u8 c] w fun e w' => e = .returned (.bool (atomB c)) ∧ Below w.heap.size w w' := by
  go_enter Tryd.func12, Tryd.ntmps12
  go_wp2_with (go_at_call 29; refine (isAtom_any _ _ hc hc2).mono ?_; rintro e w' ⟨rfl, hb⟩)
  go_ret
  exact ⟨rfl, hb⟩
def tagB (c : Int) : Bool := (c == 93) || (!(c == 43) && atomB c)
theorem tag_any (c : Int) (w : World) (hc : 0 ≤ c) (hc2 : c < 256) :
    Calls Tryd.prog 14 #[.int .u8 c] w fun e w' => e = .returned (.bool (tagB c)) ∧ Below w.heap.size w w' := by
  by_cases h1 : c = 93
  · subst h1
    go_enter Tryd.func14, Tryd.ntmps14
    go_wp2_with fail
    go_ret
    exact ⟨rfl, Below.refl _ _⟩
  · by_cases h2 : c = 43
    · subst h2
      go_enter Tryd.func14, Tryd.ntmps14
      go_wp2_with fail
      go_ret
      exact ⟨rfl, Below.refl _ _⟩
    · have e1 : (c == 93) = false := by simpa using h1
      have e2 : (c == 43) = false := by simpa using h2
      have e3 : (c != 43) = true := by simpa using h2
      have hI := Lib.hid (show tagB c = atomB c by simp [tagB, e1, e2])
      go_enter Tryd.func14, Tryd.ntmps14
      go_wp2_with (go_at_call 29; refine (isAtom_any _ _ hc hc2).mono ?_; rintro e w' ⟨rfl, hb⟩)
      go_ret
      exact ⟨by rw [hI.out]; rfl, hb⟩
end Go.Proofs.YtkohhonbeenloaaDoor
