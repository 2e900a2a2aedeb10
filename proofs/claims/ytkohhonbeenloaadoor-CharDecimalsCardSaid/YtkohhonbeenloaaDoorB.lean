/- The walks of package char and of its reference: classes of bytes, strings in a class. -/
import Derived.Test.YtkohhonbeenloaaDoorA
import Derived.StillTailTactics
import Derived.Deep.RegionWith
import Derived.Deep.RegionHeld3
namespace Go.Proofs.YtkohhonbeenloaaDoor
open Go.RowKit

def textB (c : Int) : Bool := c != 0 && (decide (c < 128) && (c != 13 && c != 10))

set_option maxHeartbeats 400000 in
theorem text_any (c : Int) (w : World) (hc : 0 ≤ c) (hc2 : c < 256) :
    Calls Tryd.prog 16 #[.int .u8 c] w fun e w' => e = .returned (.bool (textB c)) ∧ w' = w := by
  by_cases h0 : c = 0
  · subst h0
    go_enter Tryd.func16, Tryd.ntmps16
    go_wp2
    go_ret
    exact ⟨rfl, rfl⟩
  have e0 : (c != 0) = true := by simpa using h0
  by_cases h1 : c < 128
  · have e1 : decide (c < 128) = true := by simpa using h1
    by_cases h2 : c = 13
    · subst h2
      go_enter Tryd.func16, Tryd.ntmps16
      go_wp2
      go_ret
      exact ⟨rfl, rfl⟩
    have e2 : (c != 13) = true := by simpa using h2
    have hI : Hid (textB c = (c != 10)) := Lib.hid (by unfold textB; rw [e0, e1, e2]; simp)
    go_enter Tryd.func16, Tryd.ntmps16
    go_wp2
    go_ret
    exact ⟨by rw [hI.out]; rfl, rfl⟩
  · have e1 : decide (c < 128) = false := by simpa using h1
    have hI : Hid (textB c = false) := Lib.hid (by unfold textB; rw [e1]; simp)
    go_enter Tryd.func16, Tryd.ntmps16
    go_wp2
    go_ret
    exact ⟨by rw [hI.out]; rfl, rfl⟩

theorem andNot32 (c : Int) (hc : 97 ≤ c) (hc2 : c ≤ 122) : bits BinOp.andNot IntKind.u8 c 32 = c - 32 := by
  have h : ∀ k : Fin 26, bits BinOp.andNot IntKind.u8 ((k.val : Int) + 97) 32 = (k.val : Int) + 97 - 32 := by decide +kernel
  have := h ⟨(c - 97).toNat, by omega⟩
  rwa [show (((⟨(c - 97).toNat, by omega⟩ : Fin 26).val : Int) + 97) = c from by simp; omega] at this
theorem upper2_yes (c : Int) (w : World) (hc : 97 ≤ c) (hc2 : c ≤ 122) :
    Calls Tryd.prog 31 #[.int .u8 c] w fun e w' => e = .returned (.int .u8 (c - 32)) ∧ w' = w := by
  go_enter Tryd.func31, Tryd.ntmps31
  go_wp2
  go_ret
  exact ⟨by rw [← andNot32 c hc hc2]; rfl, rfl⟩
theorem upper2_no (c : Int) (w : World) (hc : ¬ (97 ≤ c ∧ c ≤ 122)) :
    Calls Tryd.prog 31 #[.int .u8 c] w fun e w' => e = .returned (.int .u8 c) ∧ w' = w := by
  by_cases h1 : 97 ≤ c
  · have h2 : ¬ c ≤ 122 := by omega
    clear hc
    go_enter Tryd.func31, Tryd.ntmps31
    go_wp2
    go_ret
    exact ⟨rfl, rfl⟩
  · clear hc
    go_enter Tryd.func31, Tryd.ntmps31
    go_wp2
    go_ret
    exact ⟨rfl, rfl⟩


theorem take_all_no {α : Type} {q : α → Bool} {l : List α} {k : Nat} (hk : k < l.length) (h : q l[k] = false) : l.all q = false := by
  rw [List.all_eq_false]; exact ⟨_, List.getElem_mem hk, by simp [h]⟩
theorem take_all_yes {α : Type} {q : α → Bool} {l : List α} {k : Nat} (hk : k < l.length) (ht : (l.take k).all q = true) (h : q l[k] = true) : (l.take (k + 1)).all q = true := by
  rw [List.take_succ_eq_append_getElem hk, List.all_append, ht]; simp [h]
theorem byte_at (s : ByteArray) (k : Nat) (h : k < s.size) : s.data.toList[k]'(by simpa using h) = s[k] := rfl

set_option maxHeartbeats 400000 in
theorem class_all (f : FuncId) (p : Int → Bool) (s : ByteArray) (w : World) (hs : s.size ≤ maxLen) (hf : ∀ args w, (callFunc f args).run Tryd.prog w = .ok (.enter f args) w)
    (H : ∀ (c : Int) (W : World), 0 ≤ c → c < 256 → Calls Tryd.prog f #[.int .u8 c] W fun e w' => e = .returned (.bool (p c)) ∧ Below W.heap.size W w') :
    Calls Tryd.prog 33 #[.agg #[.func (.func f) #[] #[]], .string s] w fun e w' => e = .returned (.bool (s.data.toList.all fun b => p b.toNat)) ∧ Below w.heap.size w w' := by
  unfold maxLen at hs
  have H' := Lib.hid H
  clear H
  go_enter Tryd.func33, Tryd.ntmps33
  go_wp2
  go_loopw [8] (fun i wr => ∃ k : Nat, k ≤ s.size ∧ i = .int .i64 k ∧ Blk wr w.heap.size 43 #[.func (.func f) #[] #[]] ∧ Below w.heap.size w wr ∧ (s.data.toList.take k).all (fun b => p b.toNat) = true) (fun i _ => s.size - (intOf i).toNat)
  case atStart => exact ⟨0, by omega, rfl, Blk.made _ _ _, (Below.refl _ _).alloc (Nat.le_refl _) _, rfl⟩
  case round =>
    obtain ⟨k, hk, rfl, hb, hw, ha⟩ := hrel
    have A := Lib.hid ha
    clear ha
    have hc0 : wr.cell? ⟨w.heap.size, 0, none⟩ = some (.func (.func f) #[] #[]) := by rw [hb.cell]; rfl
    by_cases hlt : k < s.size
    · have hi0 : (0 : Int) ≤ k := by omega
      have hi1 : (k : Int) < s.size := by omega
      have hl : k < s.data.toList.length := by simpa using hlt
      have hu := s[k].toNat_lt
      have hyes : Hid (p (s[k].toNat : Int) = true → (s.data.toList.take (k + 1)).all (fun b => p b.toNat) = true) := Lib.hid fun hp => take_all_yes hl A.out hp
      have hno : Hid (p (s[k].toNat : Int) = false → (s.data.toList.all fun b => p b.toNat) = false) := Lib.hid fun hp => take_all_no (q := fun b : UInt8 => p b.toNat) hl hp
      go_wp2_with fail
      go_still_tail 5, (by kernel_rfl)
      change wpList _ _ _ _ _ wr.drew
      have hb2 := hb.drew
      have hw2 := hw.drew
      generalize wr.drew = w2 at hb2 hw2 ⊢
      go_wp2_with fail
      refine (H'.out _ _ (by omega) (by omega)).mono ?_
      rintro e w3 ⟨rfl, hb3⟩
      have hb4 := hb2.below hb3 hb2.lt
      have hw4 := hw2.trans (hb3.mono hw2.size)
      cases hp : p (s[k].toNat : Int)
      · have R := Lib.hid (hno.out hp)
        go_wp2_with fail
        go_ret
        exact ⟨by rw [R.out]; rfl, hw4⟩
      · have R := Lib.hid (hyes.out hp)
        go_wp2_with fail
        go_roundw
        case rel => exact ⟨k + 1, by omega, by go_num, hb4, hw4, R.out⟩
        case measure => simp [intOf]; omega
    · have R : Hid ((s.data.toList.all fun b => p b.toNat) = true) := Lib.hid (by have := A.out; rwa [List.take_of_length_le (by simp; omega)] at this)
      go_wp2_with fail
      go_ret
      exact ⟨by rw [R.out]; rfl, hw⟩

theorem all_empty (f : FuncId) (w : World) :
    Calls Tryd.prog 23 #[.string ⟨#[]⟩, .func (.func f) #[] #[]] w fun e w' => e = .returned (.bool false) ∧ Below w.heap.size w w' := by
  go_enter Tryd.func23, Tryd.ntmps23
  go_wp2_with fail
  go_ret
  exact ⟨rfl, Below.refl _ _⟩


theorem str_cases (s : ByteArray) : s = ⟨#[]⟩ ∨ (¬ s.toList = [] ∧ s.toList.isEmpty = false ∧ s.data.toList.isEmpty = false) := by
  rcases s with ⟨⟨l⟩⟩
  cases l with
  | nil => exact .inl rfl
  | cons a l => right; rw [ByteArray.toList_eq]; simp

def allS (p : Int → Bool) (s : ByteArray) : Bool := !s.data.toList.isEmpty && s.data.toList.all fun b => p b.toNat

theorem all_any (f : FuncId) (p : Int → Bool) (s : ByteArray) (w : World) (hs : s.size ≤ maxLen) (hf : ∀ args w, (callFunc f args).run Tryd.prog w = .ok (.enter f args) w)
    (H : ∀ (c : Int) (W : World), 0 ≤ c → c < 256 → Calls Tryd.prog f #[.int .u8 c] W fun e w' => e = .returned (.bool (p c)) ∧ Below W.heap.size W w') :
    Calls Tryd.prog 23 #[.string s, .func (.func f) #[] #[]] w fun e w' => e = .returned (.bool (allS p s)) ∧ Below w.heap.size w w' := by
  rcases str_cases s with rfl | ⟨h1, h2, h3⟩
  · exact all_empty f w
  have h33 := Lib.hid (class_all f p s · hs hf H)
  have R : Hid (allS p s = s.data.toList.all fun b => p b.toNat) := Lib.hid (by unfold allS; rw [h3]; rfl)
  clear H h3
  generalize s.data.toList.all (fun b => p b.toNat) = b at h33 R
  go_enter Tryd.func23, Tryd.ntmps23
  go_wp2_with (go_at_call 33; refine (h33.out _).mono ?_; rintro e w1 ⟨rfl, hb⟩)
  go_ret
  exact ⟨by rw [R.out]; rfl, hb⟩


end Go.Proofs.YtkohhonbeenloaaDoor
