/- The walks of the reference of package char: classes, strings in a class. -/
import Derived.Test.YtkohhonbeenloaaDoorC
namespace Go.Proofs.YtkohhonbeenloaaDoor
open Go.RowKit

theorem atomB_tab : ∀ c : Fin 256, atomB c.val = (!(([40, 41, 123, 37, 42, 34, 92, 93] : List Int).contains c.val) && (decide (32 < (c.val : Int)) && decide ((c.val : Int) < 127))) := by decide +kernel
theorem atomB_ref (c : Int) (hc : 0 ≤ c) (hc2 : c < 256) : atomB c = (!(([40, 41, 123, 37, 42, 34, 92, 93] : List Int).contains c) && (decide (32 < c) && decide (c < 127))) := by
  have := atomB_tab ⟨c.toNat, by omega⟩
  simp only [Int.toNat_of_nonneg hc] at this
  exact this

theorem rAtom_sp (c : Int) (w : World) (h : c ∈ ([40, 41, 123, 37, 42, 34, 92, 93] : List Int)) :
    Calls Tryd.prog 13 #[.int .u8 c] w fun e w' => e = .returned (.bool false) ∧ w' = w := by
  simp only [List.mem_cons, List.not_mem_nil, or_false] at h
  rcases h with rfl | rfl | rfl | rfl | rfl | rfl | rfl | rfl
  all_goals
    go_enter Tryd.func13, Tryd.ntmps13
    go_wp2
    go_ret
    exact ⟨rfl, rfl⟩
set_option maxHeartbeats 400000 in
theorem rAtom_no (c : Int) (w : World) (h : ¬ c ∈ ([40, 41, 123, 37, 42, 34, 92, 93] : List Int)) (b : Bool) (hb : (decide (32 < c) && decide (c < 127)) = b) :
    Calls Tryd.prog 13 #[.int .u8 c] w fun e w' => e = .returned (.bool b) ∧ w' = w := by
  simp only [List.mem_cons, List.not_mem_nil, or_false, not_or] at h
  obtain ⟨h1, h2, h3, h4, h5, h6, h7, h8⟩ := h
  have e1 : (c == 40) = false := by simpa using h1
  have e2 : (c == 41) = false := by simpa using h2
  have e3 : (c == 123) = false := by simpa using h3
  have e4 : (c == 37) = false := by simpa using h4
  have e5 : (c == 42) = false := by simpa using h5
  have e6 : (c == 34) = false := by simpa using h6
  have e7 : (c == 92) = false := by simpa using h7
  have e8 : (c == 93) = false := by simpa using h8
  clear h1 h2 h3 h4 h5 h6 h7 h8
  have HB := Lib.hid hb
  clear hb
  by_cases h : 32 < c
  · have R : Hid (decide (c < 127) = b) := Lib.hid (by have := HB.out; rwa [decide_eq_true h, Bool.true_and] at this)
    clear HB
    go_enter Tryd.func13, Tryd.ntmps13
    go_wp2
    go_ret
    exact ⟨by rw [← R.out]; rfl, rfl⟩
  · have R : Hid (false = b) := Lib.hid (by have := HB.out; rwa [decide_eq_false h, Bool.false_and] at this)
    clear HB
    go_enter Tryd.func13, Tryd.ntmps13
    go_wp2
    go_ret
    exact ⟨by rw [← R.out]; rfl, rfl⟩
theorem rAtom_any (c : Int) (w : World) (hc : 0 ≤ c) (hc2 : c < 256) :
    Calls Tryd.prog 13 #[.int .u8 c] w fun e w' => e = .returned (.bool (atomB c)) ∧ w' = w := by
  rw [atomB_ref c hc hc2]
  by_cases h : c ∈ ([40, 41, 123, 37, 42, 34, 92, 93] : List Int)
  · have e : (([40, 41, 123, 37, 42, 34, 92, 93] : List Int).contains c) = true := List.contains_iff_mem.2 h
    rw [e]
    exact rAtom_sp c w h
  · have e : (([40, 41, 123, 37, 42, 34, 92, 93] : List Int).contains c) = false := by
      rw [Bool.eq_false_iff]; exact fun h' => h (List.contains_iff_mem.1 h')
    rw [e]
    exact rAtom_no c w h _ rfl

theorem rTag_any (c : Int) (w : World) (hc : 0 ≤ c) (hc2 : c < 256) :
    Calls Tryd.prog 15 #[.int .u8 c] w fun e w' => e = .returned (.bool (tagB c)) ∧ w' = w := by
  have h13 := Lib.hid (rAtom_any c w hc hc2)
  by_cases h1 : c = 93
  · subst h1
    go_enter Tryd.func15, Tryd.ntmps15
    go_wp2_with (go_at_call 13; refine h13.out.mono ?_; rintro e w' ⟨rfl, rfl⟩)
    all_goals go_ret
    all_goals exact ⟨rfl, rfl⟩
  · have e1 : (c == 93) = false := by simpa using h1
    have R : Hid (tagB c = (!(c == 43) && atomB c)) := Lib.hid (by unfold tagB; rw [e1]; rfl)
    generalize atomB c = b at h13 R
    by_cases h2 : c = 43
    · subst h2
      go_enter Tryd.func15, Tryd.ntmps15
      go_wp2_with (go_at_call 13; refine h13.out.mono ?_; rintro e w' ⟨rfl, rfl⟩)
      all_goals go_ret
      all_goals exact ⟨by rw [R.out]; rfl, rfl⟩
    · have e2 : (c == 43) = false := by simpa using h2
      have e3 : (c != 43) = true := by simpa using h2
      have R2 : Hid (tagB c = b) := Lib.hid (by rw [R.out, e2]; rfl)
      cases b
      all_goals
        go_enter Tryd.func15, Tryd.ntmps15
        go_wp2_with (go_at_call 13; refine h13.out.mono ?_; rintro e w' ⟨rfl, rfl⟩)
        go_ret
        exact ⟨by rw [R2.out]; rfl, rfl⟩

set_option maxHeartbeats 400000 in
theorem rText_any (c : Int) (w : World) (hc : 0 ≤ c) (hc2 : c < 256) :
    Calls Tryd.prog 17 #[.int .u8 c] w fun e w' => e = .returned (.bool (textB c)) ∧ w' = w := by
  by_cases h0 : 0 < c
  · have e0 : (c != 0) = true := by rw [bne_iff_ne]; omega
    by_cases h1 : c < 128
    · by_cases h2 : c = 10
      · subst h2
        go_enter Tryd.func17, Tryd.ntmps17
        go_wp2
        go_ret
        exact ⟨rfl, rfl⟩
      have e2 : (c != 10) = true := by rw [bne_iff_ne]; omega
      have e1 : decide (c < 128) = true := by simpa using h1
      have R : Hid (textB c = (c != 13)) := Lib.hid (by unfold textB; rw [e0, e1, e2]; simp)
      clear e1
      go_enter Tryd.func17, Tryd.ntmps17
      go_wp2
      go_ret
      exact ⟨by rw [R.out]; rfl, rfl⟩
    · have e1 : decide (c < 128) = false := by simpa using h1
      have R : Hid (textB c = false) := Lib.hid (by unfold textB; rw [e1]; simp)
      clear e1
      go_enter Tryd.func17, Tryd.ntmps17
      go_wp2
      go_ret
      exact ⟨by rw [R.out]; rfl, rfl⟩
  · obtain rfl : c = 0 := by omega
    go_enter Tryd.func17, Tryd.ntmps17
    go_wp2
    go_ret
    exact ⟨rfl, rfl⟩

theorem isAtomS_none (w : World) :
    Calls Tryd.prog 24 #[.string ⟨#[]⟩] w fun e w' => e = .returned (.bool false) ∧ w' = w := by
  go_enter Tryd.func24, Tryd.ntmps24
  go_wp2
  go_loop [3] (fun i => i = .int .i64 0) (fun _ => 0)
  case atStart => rfl
  case round =>
    subst hrel
    go_wp2
    go_ret
    exact ⟨rfl, rfl⟩
set_option maxHeartbeats 400000 in
theorem isAtomS_any (s : ByteArray) (w : World) (hs : s.size ≤ maxLen) :
    Calls Tryd.prog 24 #[.string s] w fun e w' => e = .returned (.bool (allS atomB s)) ∧ w' = w := by
  unfold maxLen at hs
  rcases str_cases s with rfl | ⟨hn1, hn2, hn3⟩
  · exact isAtomS_none w
  have R : Hid (allS atomB s = s.data.toList.all fun b => atomB b.toNat) := Lib.hid (by unfold allS; rw [hn3]; rfl)
  clear hn3
  go_enter Tryd.func24, Tryd.ntmps24
  go_wp2
  go_loop [3] (fun i => ∃ k : Nat, k ≤ s.size ∧ i = .int .i64 k ∧ (s.data.toList.take k).all (fun b => atomB b.toNat) = true) (fun i => s.size - (intOf i).toNat)
  case atStart => exact ⟨0, by omega, rfl, rfl⟩
  case round =>
    obtain ⟨k, hk, rfl, ha⟩ := hrel
    have A := Lib.hid ha
    clear ha
    by_cases hlt : k < s.size
    · have hi0 : (0 : Int) ≤ k := by omega
      have hi1 : (k : Int) < s.size := by omega
      have hl : k < s.data.toList.length := by simpa using hlt
      have hu := s[k].toNat_lt
      have hyes : Hid (atomB (s[k].toNat : Int) = true → (s.data.toList.take (k + 1)).all (fun b => atomB b.toNat) = true) := Lib.hid fun hp => take_all_yes hl A.out hp
      have hno : Hid (atomB (s[k].toNat : Int) = false → (s.data.toList.all fun b => atomB b.toNat) = false) := Lib.hid fun hp => take_all_no (q := fun b : UInt8 => atomB b.toNat) hl hp
      go_wp2_with fail
      refine (rAtom_any _ _ (by omega) (by omega)).mono ?_
      rintro e w' ⟨rfl, rfl⟩
      cases hp : atomB (s[k].toNat : Int)
      · have R2 := Lib.hid (hno.out hp)
        go_wp2_with fail
        go_ret
        exact ⟨by rw [R.out, R2.out]; rfl, rfl⟩
      · have R2 := Lib.hid (hyes.out hp)
        go_wp2_with fail
        go_round
        case rel => exact ⟨k + 1, by omega, by go_num, R2.out⟩
        case measure => simp [intOf]; omega
    · have R2 : Hid ((s.data.toList.all fun b => atomB b.toNat) = true) := Lib.hid (by have := A.out; rwa [List.take_of_length_le (by simp; omega)] at this)
      go_wp2_with fail
      go_ret
      exact ⟨by rw [R.out, R2.out]; rfl, rfl⟩

theorem isTagS_none (w : World) :
    Calls Tryd.prog 25 #[.string ⟨#[]⟩] w fun e w' => e = .returned (.bool false) ∧ w' = w := by
  go_enter Tryd.func25, Tryd.ntmps25
  go_wp2
  go_loop [3] (fun i => i = .int .i64 0) (fun _ => 0)
  case atStart => rfl
  case round =>
    subst hrel
    go_wp2
    go_ret
    exact ⟨rfl, rfl⟩
set_option maxHeartbeats 400000 in
theorem isTagS_any (s : ByteArray) (w : World) (hs : s.size ≤ maxLen) :
    Calls Tryd.prog 25 #[.string s] w fun e w' => e = .returned (.bool (allS tagB s)) ∧ w' = w := by
  unfold maxLen at hs
  rcases str_cases s with rfl | ⟨hn1, hn2, hn3⟩
  · exact isTagS_none w
  have R : Hid (allS tagB s = s.data.toList.all fun b => tagB b.toNat) := Lib.hid (by unfold allS; rw [hn3]; rfl)
  clear hn3
  go_enter Tryd.func25, Tryd.ntmps25
  go_wp2
  go_loop [3] (fun i => ∃ k : Nat, k ≤ s.size ∧ i = .int .i64 k ∧ (s.data.toList.take k).all (fun b => tagB b.toNat) = true) (fun i => s.size - (intOf i).toNat)
  case atStart => exact ⟨0, by omega, rfl, rfl⟩
  case round =>
    obtain ⟨k, hk, rfl, ha⟩ := hrel
    have A := Lib.hid ha
    clear ha
    by_cases hlt : k < s.size
    · have hi0 : (0 : Int) ≤ k := by omega
      have hi1 : (k : Int) < s.size := by omega
      have hl : k < s.data.toList.length := by simpa using hlt
      have hu := s[k].toNat_lt
      have hyes : Hid (tagB (s[k].toNat : Int) = true → (s.data.toList.take (k + 1)).all (fun b => tagB b.toNat) = true) := Lib.hid fun hp => take_all_yes hl A.out hp
      have hno : Hid (tagB (s[k].toNat : Int) = false → (s.data.toList.all fun b => tagB b.toNat) = false) := Lib.hid fun hp => take_all_no (q := fun b : UInt8 => tagB b.toNat) hl hp
      go_wp2_with fail
      refine (rTag_any _ _ (by omega) (by omega)).mono ?_
      rintro e w' ⟨rfl, rfl⟩
      cases hp : tagB (s[k].toNat : Int)
      · have R2 := Lib.hid (hno.out hp)
        go_wp2_with fail
        go_ret
        exact ⟨by rw [R.out, R2.out]; rfl, rfl⟩
      · have R2 := Lib.hid (hyes.out hp)
        go_wp2_with fail
        go_round
        case rel => exact ⟨k + 1, by omega, by go_num, R2.out⟩
        case measure => simp [intOf]; omega
    · have R2 : Hid ((s.data.toList.all fun b => tagB b.toNat) = true) := Lib.hid (by have := A.out; rwa [List.take_of_length_le (by simp; omega)] at this)
      go_wp2_with fail
      go_ret
      exact ⟨by rw [R.out, R2.out]; rfl, rfl⟩

theorem isTextS_none (w : World) :
    Calls Tryd.prog 26 #[.string ⟨#[]⟩] w fun e w' => e = .returned (.bool false) ∧ w' = w := by
  go_enter Tryd.func26, Tryd.ntmps26
  go_wp2
  go_loop [3] (fun i => i = .int .i64 0) (fun _ => 0)
  case atStart => rfl
  case round =>
    subst hrel
    go_wp2
    go_ret
    exact ⟨rfl, rfl⟩
set_option maxHeartbeats 400000 in
theorem isTextS_any (s : ByteArray) (w : World) (hs : s.size ≤ maxLen) :
    Calls Tryd.prog 26 #[.string s] w fun e w' => e = .returned (.bool (allS textB s)) ∧ w' = w := by
  unfold maxLen at hs
  rcases str_cases s with rfl | ⟨hn1, hn2, hn3⟩
  · exact isTextS_none w
  have R : Hid (allS textB s = s.data.toList.all fun b => textB b.toNat) := Lib.hid (by unfold allS; rw [hn3]; rfl)
  clear hn3
  go_enter Tryd.func26, Tryd.ntmps26
  go_wp2
  go_loop [3] (fun i => ∃ k : Nat, k ≤ s.size ∧ i = .int .i64 k ∧ (s.data.toList.take k).all (fun b => textB b.toNat) = true) (fun i => s.size - (intOf i).toNat)
  case atStart => exact ⟨0, by omega, rfl, rfl⟩
  case round =>
    obtain ⟨k, hk, rfl, ha⟩ := hrel
    have A := Lib.hid ha
    clear ha
    by_cases hlt : k < s.size
    · have hi0 : (0 : Int) ≤ k := by omega
      have hi1 : (k : Int) < s.size := by omega
      have hl : k < s.data.toList.length := by simpa using hlt
      have hu := s[k].toNat_lt
      have hyes : Hid (textB (s[k].toNat : Int) = true → (s.data.toList.take (k + 1)).all (fun b => textB b.toNat) = true) := Lib.hid fun hp => take_all_yes hl A.out hp
      have hno : Hid (textB (s[k].toNat : Int) = false → (s.data.toList.all fun b => textB b.toNat) = false) := Lib.hid fun hp => take_all_no (q := fun b : UInt8 => textB b.toNat) hl hp
      go_wp2_with fail
      refine (rText_any _ _ (by omega) (by omega)).mono ?_
      rintro e w' ⟨rfl, rfl⟩
      cases hp : textB (s[k].toNat : Int)
      · have R2 := Lib.hid (hno.out hp)
        go_wp2_with fail
        go_ret
        exact ⟨by rw [R.out, R2.out]; rfl, rfl⟩
      · have R2 := Lib.hid (hyes.out hp)
        go_wp2_with fail
        go_round
        case rel => exact ⟨k + 1, by omega, by go_num, R2.out⟩
        case measure => simp [intOf]; omega
    · have R2 : Hid ((s.data.toList.all fun b => textB b.toNat) = true) := Lib.hid (by have := A.out; rwa [List.take_of_length_le (by simp; omega)] at this)
      go_wp2_with fail
      go_ret
      exact ⟨by rw [R.out, R2.out]; rfl, rfl⟩
end Go.Proofs.YtkohhonbeenloaaDoor
