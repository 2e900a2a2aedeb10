/- The walks of the reference of package char: Number. -/
import Derived.Test.YthoccgkkgnlbpaaDoorE
namespace Go.Proofs.YthoccgkkgnlbpaaDoor
open Go.RowKit

def digitB (b : UInt8) : Bool := decide (48 ≤ b.toNat) && decide (b.toNat ≤ 57)
def valL (l : List UInt8) : Nat := l.foldl (fun a c => 10 * a + (c.toNat - 48)) 0
/-- The number whose decimal form the bytes are, if it is below 2 to the 32. -/
def numB (l : List UInt8) : Option Nat :=
  if 10 < l.length then none else if l.all digitB then (if 4294967295 < valL l ∨ Lib.decDigits (valL l) ≠ l then none else some (valL l)) else none

theorem valL_snoc (l : List UInt8) (c : UInt8) : valL (l ++ [c]) = 10 * valL l + (c.toNat - 48) := by simp [valL]
theorem snoc_ind {α : Type} {P : List α → Prop} (h0 : P []) (hs : ∀ l c, P l → P (l ++ [c])) (l : List α) : P l := by
  have h : ∀ r : List α, P r.reverse := fun r => by
    induction r with
    | nil => exact h0
    | cons c r ih => rw [List.reverse_cons]; exact hs _ _ ih
  simpa using h l.reverse
theorem valL_lt (l : List UInt8) (h : l.all digitB = true) : valL l < 10 ^ l.length := by
  revert h
  refine snoc_ind (P := fun l => l.all digitB = true → valL l < 10 ^ l.length) (fun _ => by decide) (fun l c ih h => ?_) l
  · rw [List.all_append, Bool.and_eq_true] at h
    have hc : digitB c = true := by simpa using h.2
    have := ih h.1
    simp only [digitB, Bool.and_eq_true, decide_eq_true_eq] at hc
    rw [valL_snoc, List.length_append, List.length_singleton, Nat.pow_succ]
    omega

theorem numB_long (l : List UInt8) (h : 10 < l.length) : numB l = none := by rw [numB, if_pos h]
theorem numB_bad (l : List UInt8) (h : l.all digitB = false) : numB l = none := by rw [numB]; split <;> simp [h]
theorem numB_ok (l : List UInt8) (h : ¬ 10 < l.length) (ha : l.all digitB = true) (v : Nat) (hv : valL l = v) : numB l = if 4294967295 < v ∨ Lib.decDigits v ≠ l then none else some v := by
  rw [numB, if_neg h, if_pos ha, hv]

set_option maxRecDepth 100000 in
set_option maxHeartbeats 400000 in
theorem rNumber_long (s : ByteArray) (w : World) (hs : s.size ≤ maxLen) (h : 10 < s.size) :
    Calls Tryd.prog 27 #[.string s] w fun e w' => e = .returned (.tuple #[.int .u32 0, .bool false]) ∧ w' = w := by
  unfold maxLen at hs
  go_enter Tryd.func27, Tryd.ntmps27
  go_wp2_with fail
  go_ret2
  exact ⟨rfl, rfl⟩

theorem val_step (s : ByteArray) (k v : Nat) (hk : k < s.size) (hv : valL (s.data.toList.take k) = v) (ha : (s.data.toList.take k).all digitB = true) (h1 : 48 ≤ s[k].toNat) (h2 : s[k].toNat ≤ 57) :
    valL (s.data.toList.take (k + 1)) = 10 * v + (s[k].toNat - 48) ∧ (s.data.toList.take (k + 1)).all digitB = true := by
  have hl : k < s.data.toList.length := by simpa using hk
  refine ⟨?_, take_all_yes hl ha (by rw [byte_at s k hk]; simp [digitB, h1, h2])⟩
  rw [List.take_succ_eq_append_getElem hl, valL_snoc, hv, byte_at s k hk]

def numV (o : Option Nat) : Value := .tuple #[.int .u32 (o.getD 0 : Nat), .bool o.isSome]

set_option maxRecDepth 100000 in
set_option maxHeartbeats 800000 in
theorem rNumber_short (s : ByteArray) (w : World) (h : ¬ 10 < s.size) :
    Calls Tryd.prog 27 #[.string s] w fun e w' => e = .returned (numV (numB s.data.toList)) ∧ w' = w := by
  have hlen : s.data.toList.length = s.size := by simp
  obtain ⟨o, ho⟩ : ∃ o, numB s.data.toList = o := ⟨_, rfl⟩
  have HO := Lib.hid ho
  rw [ho]
  clear ho
  go_enter Tryd.func27, Tryd.ntmps27
  go_wp2_with fail
  go_loop [4, 5] (fun n i => ∃ (k v : Nat), k ≤ s.size ∧ i = .int .i64 k ∧ n = .int .u64 v ∧ v < 10000000000 ∧ valL (s.data.toList.take k) = v ∧ (s.data.toList.take k).all digitB = true) (fun _ i => s.size - (intOf i).toNat)
  case atStart => exact ⟨0, 0, by omega, rfl, rfl, by omega, rfl, rfl⟩
  case round =>
    obtain ⟨k, v, hk, rfl, rfl, hv10, hv, ha⟩ := hrel
    have HV := Lib.hid hv
    have HA := Lib.hid ha
    have HL := Lib.hid hlen
    clear hv ha hlen
    by_cases hlt : k < s.size
    · have hi0 : (0 : Int) ≤ k := by omega
      have hi1 : (k : Int) < s.size := by omega
      have hu := s[k].toNat_lt
      by_cases h1 : 48 ≤ s[k].toNat
      · by_cases h2 : s[k].toNat ≤ 57
        · have hst := val_step s k v hlt HV.out HA.out h1 h2
          have HS := Lib.hid hst
          have hb : 10 * v + (s[k].toNat - 48) < 10000000000 := by
            have := valL_lt _ hst.2
            rw [hst.1, List.length_take] at this
            exact Nat.lt_of_lt_of_le this (Nat.pow_le_pow_right (by omega) (by have := HL.out; omega : min (k + 1) s.data.toList.length ≤ 10))
          clear hst
          go_wp2_with fail
          go_round
          case rel => exact ⟨k + 1, 10 * v + (s[k].toNat - 48), by omega, by go_num, by go_num, hb, HS.out⟩
          case measure => simp [intOf]; omega
        · have R : Hid (o = none) := Lib.hid (by rw [← HO.out]; exact numB_bad _ (take_all_no (by rw [HL.out]; exact hlt) (by rw [byte_at s k hlt]; simp [digitB, h2])))
          go_wp2_with fail
          go_ret2
          exact ⟨by rw [R.out]; rfl, rfl⟩
      · have R : Hid (o = none) := Lib.hid (by rw [← HO.out]; exact numB_bad _ (take_all_no (by rw [HL.out]; exact hlt) (by rw [byte_at s k hlt]; simp [digitB, h1])))
        go_wp2_with fail
        go_ret2
        exact ⟨by rw [R.out]; rfl, rfl⟩
    · have hall : s.data.toList.take k = s.data.toList := List.take_of_length_le (by rw [HL.out]; omega)
      have hN := numB_ok s.data.toList (by rw [HL.out]; exact h) (by rw [← hall]; exact HA.out) v (by rw [← hall]; exact HV.out)
      rw [HO.out] at hN
      clear hall
      by_cases hbig : 4294967295 < v
      · have R : Hid (o = none) := Lib.hid (by rw [hN, if_pos (.inl hbig)])
        clear hN
        go_wp2_with fail
        go_ret2
        exact ⟨by rw [R.out]; rfl, rfl⟩
      · have HN := Lib.hid hN
        clear hN
        go_wp2_with fail
        refine (rDecimal_any v w (by omega)).mono ?_
        rintro e w' ⟨rfl, rfl⟩
        generalize hx : ofL (Lib.decDigits v) = x
        by_cases he : x.toList = s.toList
        · have R : Hid (o = some v) := Lib.hid (by
            rw [HN.out, if_neg]
            rw [ByteArray.toList_eq, ByteArray.toList_eq, ← hx, ofL_data] at he
            rintro (h | h)
            · exact hbig h
            · exact h he)
          have e1 : (x.toList == s.toList) = true := by rw [beq_iff_eq]; exact he
          have e2 : (x.toList != s.toList) = false := by rw [bne, e1]; rfl
          clear hx he
          go_wp2_with fail
          go_ret2
          exact ⟨by rw [R.out]; rfl, rfl⟩
        · have R : Hid (o = none) := Lib.hid (by
            have hne : Lib.decDigits v ≠ s.data.toList := fun h => he (by rw [ByteArray.toList_eq, ByteArray.toList_eq, ← hx, ofL_data]; exact h)
            rw [HN.out, if_pos (.inr hne)])
          have e1 : (x.toList == s.toList) = false := by rw [beq_eq_false_iff_ne]; exact he
          have e2 : (x.toList != s.toList) = true := by rw [bne, e1]; rfl
          clear hx he
          go_wp2_with fail
          go_ret2
          exact ⟨by rw [R.out]; rfl, rfl⟩

theorem rNumber_any (s : ByteArray) (w : World) (hs : s.size ≤ maxLen) :
    Calls Tryd.prog 27 #[.string s] w fun e w' => e = .returned (numV (numB s.data.toList)) ∧ w' = w := by
  by_cases h : 10 < s.size
  · rw [numB_long _ (by simpa using h)]
    exact rNumber_long s w hs h
  · exact rNumber_short s w h
end Go.Proofs.YthoccgkkgnlbpaaDoor
