/- The walks of the statements of layer 1: each returns true. -/
import Derived.Test.YtkohhonbeenloaaDoorI
namespace Go.Proofs.YtkohhonbeenloaaDoor
open Go.RowKit

theorem num00 : numB [48, 48] = none := by
  cases h : numB [48, 48] with
  | none => rfl
  | some n =>
    have h2 := (numB_some h).2
    by_cases hn : n < 10
    · rw [decDigits_small n hn] at h2; exact absurd (congrArg List.length h2) (by simp)
    · rw [decDigits_big n hn] at h2
      by_cases hn2 : n / 10 < 10
      · rw [decDigits_small _ hn2] at h2
        injection h2 with h2 _
        have := congrArg UInt8.toNat h2
        rw [dig_nat _ hn2] at this
        have e : (48 : UInt8).toNat = 48 := rfl
        omega
      · rw [decDigits_big _ hn2] at h2
        have := congrArg List.length h2
        have h3 := decDigits_ne (n / 10 / 10)
        cases hd : Lib.decDigits (n / 10 / 10) with
        | nil => exact absurd hd h3
        | cons a l => rw [hd] at this; simp at this
theorem num407 : numB [52, 48, 55] = some 407 := by
  have h : Lib.decDigits 407 = [52, 48, 55] := by
    rw [decDigits_big 407 (by decide), decDigits_big (407 / 10) (by decide), decDigits_small (407 / 10 / 10) (by decide)]
    rfl
  rw [← h]; exact numB_dec 407 (by decide)
theorem up_a1e : upS ⟨#[97, 49, 195, 169]⟩ = ⟨#[65, 49, 195, 169]⟩ := by kernel_rfl

theorem tag93 (w : World) : Calls Tryd.prog 14 #[.int .u8 93] w fun e w' => e = .returned (.bool true) ∧ Below w.heap.size w w' := tag_any 93 w (by omega) (by omega)
theorem tag43 (w : World) : Calls Tryd.prog 14 #[.int .u8 43] w fun e w' => e = .returned (.bool false) ∧ Below w.heap.size w w' := tag_any 43 w (by omega) (by omega)
theorem atom43 (w : World) : Calls Tryd.prog 12 #[.int .u8 43] w fun e w' => e = .returned (.bool true) ∧ Below w.heap.size w w' := atom_any 43 w (by omega) (by omega)
theorem atom93 (w : World) : Calls Tryd.prog 12 #[.int .u8 93] w fun e w' => e = .returned (.bool false) ∧ Below w.heap.size w w' := atom_any 93 w (by omega) (by omega)

set_option maxHeartbeats 400000 in
theorem alive_any (w : World) (hS : Std w) :
    Calls Tryd.prog 9 #[] w fun e w' => e = .returned (.bool true) ∧ Below w.heap.size w w' := by
  have h00 := fun (W : World) (h : Std W) => number_any ⟨#[48, 48]⟩ W (by decide) h
  have h407 := fun (W : World) (h : Std W) => number_any ⟨#[52, 48, 55]⟩ W (by decide) h
  have hup := fun (W : World) => upper_upS ⟨#[97, 49, 195, 169]⟩ W (by decide)
  rw [up_a1e] at hup
  simp only [num00, num407, numV_none, numV_some] at h00 h407
  have H0 := Lib.hid h00
  have H4 := Lib.hid h407
  have HU := Lib.hid hup
  clear h00 h407 hup
  go_enter Tryd.func9, Tryd.ntmps9
  go_wp2_with fail
  refine (H0.out _ hS).mono ?_
  rintro e w1 ⟨rfl, hb1⟩
  go_wp2_with fail
  refine (H4.out _ (hS.below hb1)).mono ?_
  rintro e w2 ⟨rfl, hb2⟩
  have a2 := hb1.trans (hb2.mono hb1.size)
  go_wp2_with fail
  refine (tag93 _).mono ?_
  rintro e w3 ⟨rfl, hb3⟩
  have a3 := a2.trans (hb3.mono a2.size)
  go_wp2_with fail
  refine (tag43 _).mono ?_
  rintro e w4 ⟨rfl, hb4⟩
  have a4 := a3.trans (hb4.mono a3.size)
  go_wp2_with fail
  refine (atom43 _).mono ?_
  rintro e w5 ⟨rfl, hb5⟩
  have a5 := a4.trans (hb5.mono a4.size)
  go_wp2_with fail
  refine (atom93 _).mono ?_
  rintro e w6 ⟨rfl, hb6⟩
  have a6 := a5.trans (hb6.mono a5.size)
  go_wp2_with fail
  refine (HU.out _).mono ?_
  rintro e w7 ⟨rfl, hb7⟩
  have a7 := a6.trans (hb7.mono a6.size)
  go_wp2_with fail
  go_ret
  exact ⟨rfl, a7⟩

set_option maxHeartbeats 400000 in
theorem charNumbers_walk (s : ByteArray) (w : World) (hs : s.size ≤ maxLen) (hS : Std w) :
    Calls Tryd.prog 3 #[.string s] w fun e w' => e = .returned (.bool true) ∧ Below w.heap.size w w' := by
  unfold maxLen at hs
  by_cases hl : 1000 < s.size
  · go_enter Tryd.func3, Tryd.ntmps3
    go_wp2_with fail
    refine (alive_any _ hS).mono ?_
    rintro e w1 ⟨rfl, hb1⟩
    go_wp2_with fail
    go_ret
    exact ⟨rfl, hb1⟩
  · have h10 := Lib.hid (number_any s w (by omega) hS)
    have h11 := Lib.hid (rNumber_any s · (by unfold maxLen; omega))
    cases hn : numB s.data.toList
    all_goals
      simp only [hn, numV_none, numV_some] at h10 h11
      go_enter Tryd.func3, Tryd.ntmps3
      go_wp2_with fail
      refine h10.out.mono ?_
      rintro e w1 ⟨rfl, hb1⟩
      go_wp2_with fail
      refine (h11.out _).mono ?_
      rintro e w2 ⟨rfl, rfl⟩
      go_wp2_with fail
      refine (alive_any _ (hS.below hb1)).mono ?_
      rintro e w3 ⟨rfl, hb3⟩
      have a3 := hb1.trans (hb3.mono hb1.size)
      go_wp2_with fail
      go_ret
      exact ⟨rfl, a3⟩

theorem charClasses_int (c : Int) (w : World) (h0 : 0 ≤ c) (h1 : c < 256) (hS : Std w) :
    Calls Tryd.prog 4 #[.int .u8 c] w fun e w' => e = .returned (.bool true) ∧ Below w.heap.size w w' := by
  have h12 := Lib.hid (atom_any c · h0 h1)
  have h13 := Lib.hid (rAtom_any c · h0 h1)
  have h14 := Lib.hid (tag_any c · h0 h1)
  have h15 := Lib.hid (rTag_any c · h0 h1)
  have h16 := Lib.hid (text_any c · h0 h1)
  have h17 := Lib.hid (rText_any c · h0 h1)
  have hat : Hid (atomB c = true → textB c = true) := Lib.hid (by
    intro h
    simp only [atomB, Bool.and_eq_true, decide_eq_true_eq] at h
    unfold textB
    rw [show (c != 0) = true by rw [bne_iff_ne]; omega, show (c != 13) = true by rw [bne_iff_ne]; omega, show (c != 10) = true by rw [bne_iff_ne]; omega, decide_eq_true (by omega : c < 128)]; rfl)
  generalize atomB c = a at *
  generalize tagB c = t at *
  generalize textB c = x at *
  go_enter Tryd.func4, Tryd.ntmps4
  go_wp2_with fail
  refine (alive_any _ hS).mono ?_
  rintro e w1 ⟨rfl, hb1⟩
  go_wp2_with fail
  refine (h12.out _).mono ?_
  rintro e w2 ⟨rfl, hb2⟩
  have a2 := hb1.trans (hb2.mono hb1.size)
  go_wp2_with fail
  refine (h13.out _).mono ?_
  rintro e w3 ⟨rfl, rfl⟩
  go_wp2_with fail
  refine (h14.out _).mono ?_
  rintro e w4 ⟨rfl, hb4⟩
  have a4 := a2.trans (hb4.mono a2.size)
  go_wp2_with fail
  refine (h15.out _).mono ?_
  rintro e w5 ⟨rfl, rfl⟩
  go_wp2_with fail
  refine (h16.out _).mono ?_
  rintro e w6 ⟨rfl, rfl⟩
  go_wp2_with fail
  refine (h17.out _).mono ?_
  rintro e w7 ⟨rfl, rfl⟩
  go_wp2_with fail
  refine (h12.out _).mono ?_
  rintro e w8 ⟨rfl, hb8⟩
  have a8 := a4.trans (hb8.mono a4.size)
  cases a
  · go_wp2_with fail
    go_ret
    exact ⟨rfl, a8⟩
  · obtain rfl := hat.out rfl
    go_wp2_with fail
    refine (h16.out _).mono ?_
    rintro e w9 ⟨rfl, rfl⟩
    go_wp2_with fail
    go_ret
    exact ⟨rfl, a8⟩

theorem charClasses_walk (n : Nat) (w : World) (h : n < 256) (hS : Std w) :
    Calls Tryd.prog 4 #[.int .u8 n] w fun e w' => e = .returned (.bool true) ∧ Below w.heap.size w w' := charClasses_int n w (by omega) (by omega) hS

theorem upB_twice (u : UInt8) : upB (upB u) = upB u := by
  by_cases h : 97 ≤ u.toNat ∧ u.toNat ≤ 122
  · have h2 := upB_yes u h
    exact upB_no _ (by omega)
  · rw [upB_no u h, upB_no u h]
theorem upS_twice (s : ByteArray) : upS (upS s) = upS s := by
  apply ba_ext
  show ((s.data.toList.map upB).map upB) = s.data.toList.map upB
  rw [List.map_map]
  exact List.map_congr_left fun u _ => upB_twice u

theorem charUppers_big (a b : ByteArray) (w : World) (ha : a.size ≤ maxLen) (hb : b.size ≤ maxLen) (hS : Std w) (h : 1000 < a.size ∨ 1000 < b.size) :
    Calls Tryd.prog 5 #[.string a, .string b] w fun e w' => e = .returned (.bool true) ∧ Below w.heap.size w w' := by
  unfold maxLen at ha hb
  by_cases h1 : 1000 < a.size
  · clear h
    go_enter Tryd.func5, Tryd.ntmps5
    go_wp2_with fail
    refine (alive_any _ hS).mono ?_
    rintro e w1 ⟨rfl, hb1⟩
    go_wp2_with fail
    go_ret
    exact ⟨rfl, hb1⟩
  · have h2 : 1000 < b.size := by omega
    clear h
    go_enter Tryd.func5, Tryd.ntmps5
    go_wp2_with fail
    refine (alive_any _ hS).mono ?_
    rintro e w1 ⟨rfl, hb1⟩
    go_wp2_with fail
    go_ret
    exact ⟨rfl, hb1⟩

set_option maxHeartbeats 400000 in
theorem charUppers_walk (a b : ByteArray) (w : World) (ha : a.size ≤ maxLen) (hb : b.size ≤ maxLen) (hS : Std w) :
    Calls Tryd.prog 5 #[.string a, .string b] w fun e w' => e = .returned (.bool true) ∧ Below w.heap.size w w' := by
  by_cases h : 1000 < a.size ∨ 1000 < b.size
  · exact charUppers_big a b w ha hb hS h
  · have hA : ¬ 1000 < a.size := fun h' => h (.inl h')
    have hB : ¬ 1000 < b.size := fun h' => h (.inr h')
    clear h
    have hal : a.size ≤ 1048576 := by omega
    have hbl : b.size ≤ 1048576 := by omega
    have hus := upS_size a
    have hul : (upS a).size ≤ maxLen := by rw [hus]; exact ha
    have h18 := Lib.hid (upper_upS a · ha)
    have h18u := Lib.hid (upper_upS (upS a) · hul)
    have h19 := Lib.hid (rUpper_any a · hal)
    have h19b := Lib.hid (rUpper_any b · hbl)
    have h20u := Lib.hid (same_any a (upS a) · ha hul)
    have h20 := Lib.hid (same_any a b · ha hb)
    rw [upS_twice] at h18u h20u
    have hee : eqS (upS a) (upS a) = true := (eqS_iff _ _).2 rfl
    rw [hee] at h20u
    clear ha hb hul hee
    generalize upS a = u at *
    unfold eqS at h20
    generalize upS b = v at *
    have HUS := Lib.hid hus
    clear hus
    go_enter Tryd.func5, Tryd.ntmps5
    go_wp2_with fail
    refine (h18.out _).mono ?_
    rintro e w1 ⟨rfl, hb1⟩
    go_wp2_with fail
    refine (alive_any _ (hS.below hb1)).mono ?_
    rintro e w2 ⟨rfl, hb2⟩
    have a2 := hb1.trans (hb2.mono hb1.size)
    go_wp2_with fail
    refine (h19.out _).mono ?_
    rintro e w3 ⟨rfl, hb3⟩
    have a3 := a2.trans (hb3.mono a2.size)
    go_wp2_with fail
    refine (h18u.out _).mono ?_
    rintro e w4 ⟨rfl, hb4⟩
    have a4 := a3.trans (hb4.mono a3.size)
    have hus := HUS.out
    go_wp2_with fail
    refine (h20u.out _).mono ?_
    rintro e w5 ⟨rfl, hb5⟩
    have a5 := a4.trans (hb5.mono a4.size)
    go_wp2_with fail
    refine (h20.out _).mono ?_
    rintro e w6 ⟨rfl, hb6⟩
    have a6 := a5.trans (hb6.mono a5.size)
    go_wp2_with fail
    refine (h19.out _).mono ?_
    rintro e w7 ⟨rfl, hb7⟩
    have a7 := a6.trans (hb7.mono a6.size)
    go_wp2_with fail
    refine (h19b.out _).mono ?_
    rintro e w8 ⟨rfl, hb8⟩
    have a8 := a7.trans (hb8.mono a7.size)
    go_wp2_with fail
    go_ret
    exact ⟨rfl, a8⟩

end Go.Proofs.YtkohhonbeenloaaDoor
