/- The walks of the reference of package char: Upper, Decimal, Number. -/
import Derived.Test.YtamholmjppgfiaaGreatDoorD
import Derived.Lib.Itoa
import Derived.Lib.ItoaNum
set_option linter.unusedVariables false
set_option linter.unusedSimpArgs false
namespace Go.Proofs.YtamholmjppgfiaaGreatDoor
open Go.RowKit

/-- The bytes of a string that is given by a list. -/
def ofL (l : List UInt8) : ByteArray := ⟨l.toArray⟩


theorem conv_one (W : World) (v : Int) (u : UInt8) (h : v = (u.toNat : Int)) :
    (convert 42 9 (.slice (some ⟨W.heap.size, 0, none⟩) 1 1)).run Tryz.prog (W.alloc (.cells #[.int .u8 v] 5)) = .ok (.string (ofL [u])) (W.alloc (.cells #[.int .u8 v] 5)) := by
  subst h
  exact run_convert_bytes_back (P := Tryz.prog) _ 42 9 5 ⟨W.heap.size, 0, none⟩ 1 [u] Tryz.underlying42 Tryz.underlying5 Tryz.underlying9 (fun j hj => by
    obtain rfl : j = 0 := by simpa using hj
    rw [show (⟨W.heap.size, 0, none⟩ : Addr).add 0 = ⟨W.heap.size, 0, none⟩ from rfl, (Blk.made W 5 _).cell]; rfl)

theorem upB_yes (u : UInt8) (h : 97 ≤ u.toNat ∧ u.toNat ≤ 122) : ((u.toNat : Int) - 32) = ((upB u).toNat : Int) := by
  unfold upB
  rw [if_pos h, UInt8.toNat_sub_of_le _ _ (by rw [UInt8.le_iff_toNat_le]; show 32 ≤ _; omega)]
  show _ = ((u.toNat - 32 : Nat) : Int); omega
theorem upB_no (u : UInt8) (h : ¬ (97 ≤ u.toNat ∧ u.toNat ≤ 122)) : upB u = u := by unfold upB; rw [if_neg h]

theorem up_grow (s t x : ByteArray) (k : Nat) (hk : k < s.size) (u : UInt8) (hu : upB s[k] = u) (hx : x = ofL [u]) (ht : t.data.toList = (s.data.toList.take k).map upB) :
    (t ++ x).data.toList = (s.data.toList.take (k + 1)).map upB := by
  subst hx
  rw [List.take_succ_eq_append_getElem (by simpa using hk), List.map_append, ← ht, ByteArray.data_append, Array.toList_append]
  rw [← hu, byte_at s k hk]; rfl

theorem slice_dig (d : Nat) (i j : Int) (hd : d < 10) (hi : i = (d : Int)) (hj : j = (d : Int) + 1) (W : World) :
    (Instr.slice 9 (Value.string ⟨#[48, 49, 50, 51, 52, 53, 54, 55, 56, 57]⟩) (some (.int .u32 i)) (some (.int .u32 j)) none).run Tryz.prog W = .ok (.string (ofL [UInt8.ofNat (48 + d)])) W := by
  subst hi hj
  obtain rfl | rfl | rfl | rfl | rfl | rfl | rfl | rfl | rfl | rfl : d = 0 ∨ d = 1 ∨ d = 2 ∨ d = 3 ∨ d = 4 ∨ d = 5 ∨ d = 6 ∨ d = 7 ∨ d = 8 ∨ d = 9 := by omega
  all_goals kernel_rfl

theorem ofL_data (l : List UInt8) : (ofL l).data.toList = l := rfl
theorem ba_ext {x y : ByteArray} (h : x.data.toList = y.data.toList) : x = y := by
  cases x; cases y; congr; exact Array.toList_inj.1 h
theorem ofL_self (s : ByteArray) : ofL s.data.toList = s := ba_ext rfl

theorem dig_grow (n k : Nat) (b x : ByteArray) (h10 : 10 ≤ k) (hx : x = ofL [UInt8.ofNat (48 + k % 10)]) (h : Lib.decDigits n = Lib.decDigits k ++ b.data.toList) :
    Lib.decDigits n = Lib.decDigits (k / 10) ++ (x ++ b).data.toList := by
  subst hx
  rw [h, Lib.decDigits, dif_neg (by omega), ByteArray.data_append, Array.toList_append, ofL_data, List.append_assoc]

set_option maxRecDepth 100000 in
set_option maxHeartbeats 400000 in
theorem rDecimal_any (n : Nat) (w : World) (hn : n < 4294967296) :
    Calls Tryz.prog 14 #[.int .u32 n] w fun e w' => e = .returned (.string (ofL (Lib.decDigits n))) ∧ w' = w := by
  go_enter Tryz.func14, Tryz.ntmps14
  go_wp2
  go_loop [0, 3] (fun m t => ∃ (k : Nat) (b : ByteArray), k ≤ n ∧ m = .int .u32 k ∧ t = .string b ∧ b.size ≤ n - k ∧ Lib.decDigits n = Lib.decDigits k ++ b.data.toList) (fun m _ => (intOf m).toNat)
  case atStart => exact ⟨n, ⟨#[]⟩, by omega, rfl, rfl, by simp [ByteArray.size], by simp⟩
  case round =>
    obtain ⟨k, b, hk, rfl, rfl, hb, ht⟩ := hrel
    have HT := Lib.hid ht
    clear ht
    by_cases h10 : 10 ≤ k
    · have hs := slice_dig (k % 10) ((k : Int) % 10) ((k : Int) % 10 + 1) (by omega) (by omega) (by omega)
      have hxl : (ofL [UInt8.ofNat (48 + k % 10)]).size ≤ 1 := Nat.le_refl _
      generalize hx : ofL [UInt8.ofNat (48 + k % 10)] = x at hs hxl
      have HX := Lib.hid hx
      clear hx
      go_wp2_with fail
      go_round
      case rel => exact ⟨k / 10, _, by omega, by go_num, rfl, by rw [ByteArray.size_append]; omega, dig_grow n k b x h10 HX.out.symm HT.out⟩
      case measure => simp [intOf]; omega
    · have hs := slice_dig k (k : Int) ((k : Int) + 1) (by omega) rfl rfl
      have hxl : (ofL [UInt8.ofNat (48 + k)]).size ≤ 1 := Nat.le_refl _
      generalize hx : ofL [UInt8.ofNat (48 + k)] = x at hs hxl
      have R : Hid (ofL (Lib.decDigits n) = x ++ b) := Lib.hid (by
        apply ba_ext
        rw [← hx, ofL_data, HT.out, Lib.decDigits, dif_pos (by omega), ByteArray.data_append, Array.toList_append, ofL_data])
      clear hx
      go_wp2_with fail
      go_ret
      exact ⟨by rw [R.out]; rfl, rfl⟩
theorem ofL_size (l : List UInt8) : (ofL l).size = l.length := by show l.toArray.size = _; rw [List.size_toArray]
theorem u8_ne {x : UInt8} {v : Nat} (hv : v < 256) (h : x ≠ UInt8.ofNat v) : ((x.toNat : Int) == (v : Int)) = false := by
  rw [beq_eq_false_iff_ne]
  intro e
  apply h
  apply UInt8.toNat_inj.1
  rw [UInt8.toNat_ofNat']
  omega
theorem u8_bne {x : UInt8} {v : Nat} (hv : v < 256) (h : x ≠ UInt8.ofNat v) : ((x.toNat : Int) != (v : Int)) = true := by
  have := u8_ne hv h
  simpa [bne] using this
end Go.Proofs.YtamholmjppgfiaaGreatDoor
