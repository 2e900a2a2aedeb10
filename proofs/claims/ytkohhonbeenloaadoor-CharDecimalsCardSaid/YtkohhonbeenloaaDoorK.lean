/- The walks of the statements of layer 1, continued: CharDecimals, CharStrings, CharJoins return true. -/
import Derived.Test.YtkohhonbeenloaaDoorJ
namespace Go.Proofs.YtkohhonbeenloaaDoor
open Go.RowKit

theorem ent12 : ∀ args w, (callFunc 12 args).run Tryd.prog w = .ok (.enter 12 args) w := fun args w => by go_simp
theorem ent14 : ∀ args w, (callFunc 14 args).run Tryd.prog w = .ok (.enter 14 args) w := fun args w => by go_simp
theorem ent16 : ∀ args w, (callFunc 16 args).run Tryd.prog w = .ok (.enter 16 args) w := fun args w => by go_simp
theorem ent27 : ∀ args w, (callFunc 27 args).run Tryd.prog w = .ok (.enter 27 args) w := fun args w => by go_simp

theorem any27 (c : Int) (w : World) : Calls Tryd.prog 27 #[.int .u8 c] w fun e w' => e = .returned (.bool true) ∧ Below w.heap.size w w' := by
  go_enter Tryd.func27, Tryd.ntmps27
  go_wp2_with fail
  go_ret
  exact ⟨rfl, Below.refl _ _⟩

theorem allAtom (s : ByteArray) (w : World) (hs : s.size ≤ maxLen) :
    Calls Tryd.prog 23 #[.string s, .func (.func 12) #[] #[]] w fun e w' => e = .returned (.bool (allS atomB s)) ∧ Below w.heap.size w w' :=
  all_any 12 atomB s w hs ent12 fun c W h1 h2 => atom_any c W h1 h2
theorem allTag (s : ByteArray) (w : World) (hs : s.size ≤ maxLen) :
    Calls Tryd.prog 23 #[.string s, .func (.func 14) #[] #[]] w fun e w' => e = .returned (.bool (allS tagB s)) ∧ Below w.heap.size w w' :=
  all_any 14 tagB s w hs ent14 fun c W h1 h2 => tag_any c W h1 h2
theorem allText (s : ByteArray) (w : World) (hs : s.size ≤ maxLen) :
    Calls Tryd.prog 23 #[.string s, .func (.func 16) #[] #[]] w fun e w' => e = .returned (.bool (allS textB s)) ∧ Below w.heap.size w w' :=
  all_any 16 textB s w hs ent16 fun c W h1 h2 => (text_any c W h1 h2).mono fun e w' ⟨he, hw⟩ => ⟨he, by rw [hw]; exact Below.refl _ _⟩
theorem allTrue (s : ByteArray) (w : World) (hs : s.size ≤ maxLen) :
    Calls Tryd.prog 23 #[.string s, .func (.func 27) #[] #[]] w fun e w' => e = .returned (.bool (allS (fun _ => true) s)) ∧ Below w.heap.size w w' :=
  all_any 27 (fun _ => true) s w hs ent27 fun c W _ _ => any27 c W

theorem dec_atom (n : Nat) : allS atomB (ofL (Lib.decDigits n)) = true := by
  unfold allS
  rw [ofL_data]
  have h1 := decDigits_ne n
  have h2 := (val_dec n).2
  have e1 : (Lib.decDigits n).isEmpty = false := by cases h : Lib.decDigits n with | nil => exact absurd h h1 | cons a l => rfl
  rw [e1, Bool.not_false, Bool.true_and, List.all_eq_true]
  intro b hb
  have := List.all_eq_true.1 h2 b hb
  simp only [digitB, Bool.and_eq_true, decide_eq_true_eq] at this
  have hall : ∀ k : Fin 10, atomB ((k.val : Int) + 48) = true := by decide +kernel
  have h3 := hall ⟨b.toNat - 48, by omega⟩
  rwa [show (((⟨b.toNat - 48, by omega⟩ : Fin 10).val : Nat) : Int) + 48 = (b.toNat : Int) from by simp; omega] at h3

set_option maxHeartbeats 400000 in
theorem charDecimals_walk (n : Nat) (w : World) (hn : n < 4294967296) (hS : Std w) :
    Calls Tryd.prog 6 #[.int .u32 n] w fun e w' => e = .returned (.bool true) ∧ Below w.heap.size w w' := by
  have hlen := decDigits_len n (by omega)
  have hsz : (ofL (Lib.decDigits n)).size ≤ 10 := hlen
  have hd := dec_atom n
  have h21 := Lib.hid (decimal_any n w hn hS)
  have h10 := Lib.hid fun W (h : Std W) => number_any (ofL (Lib.decDigits n)) W (by omega) h
  have h22 := Lib.hid fun W => rDecimal_any n W hn
  have h23 := Lib.hid fun W => allAtom (ofL (Lib.decDigits n)) W (by unfold maxLen; omega)
  rw [ofL_data, numB_dec n (by omega), numV_some] at h10
  rw [hd] at h23
  clear hd hlen hsz
  generalize ofL (Lib.decDigits n) = x at *
  go_enter Tryd.func6, Tryd.ntmps6
  go_wp2_with fail
  refine h21.out.mono ?_
  rintro e w1 ⟨rfl, hb1⟩
  go_wp2_with fail
  refine (h10.out _ (hS.below hb1)).mono ?_
  rintro e w2 ⟨rfl, hb2⟩
  have a2 := hb1.trans (hb2.mono hb1.size)
  go_wp2_with fail
  refine (alive_any _ (hS.below a2)).mono ?_
  rintro e w3 ⟨rfl, hb3⟩
  have a3 := a2.trans (hb3.mono a2.size)
  go_wp2_with fail
  refine (h22.out _).mono ?_
  rintro e w4 ⟨rfl, rfl⟩
  go_wp2_with fail
  refine (h23.out _).mono ?_
  rintro e w5 ⟨rfl, hb5⟩
  have a5 := a3.trans (hb5.mono a3.size)
  go_wp2_with fail
  go_ret
  exact ⟨rfl, a5⟩

theorem allS_true (s : ByteArray) : allS (fun _ => true) s = !s.toList.isEmpty := by
  unfold allS
  rw [← ByteArray.toList_eq, List.all_eq_true.2 (fun _ _ => rfl), Bool.and_true]

set_option maxHeartbeats 400000 in
theorem charStrings_walk (s : ByteArray) (w : World) (hs : s.size ≤ maxLen) (hS : Std w) :
    Calls Tryd.prog 7 #[.string s] w fun e w' => e = .returned (.bool true) ∧ Below w.heap.size w w' := by
  have h1 := Lib.hid (allAtom s · hs)
  have h2 := Lib.hid (allTag s · hs)
  have h3 := Lib.hid (allText s · hs)
  have h4 := Lib.hid (allTrue s · hs)
  have h5 := Lib.hid (isAtomS_any s · hs)
  have h6 := Lib.hid (isTagS_any s · hs)
  have h7 := Lib.hid (isTextS_any s · hs)
  rw [allS_true] at h4
  generalize allS atomB s = x at *
  generalize allS tagB s = y at *
  generalize allS textB s = z at *
  unfold maxLen at hs
  by_cases hl : 1000 < s.size
  · go_enter Tryd.func7, Tryd.ntmps7
    go_wp2_with fail
    refine (alive_any _ hS).mono ?_
    rintro e w1 ⟨rfl, hb1⟩
    go_wp2_with fail
    go_ret
    exact ⟨rfl, hb1⟩
  · go_enter Tryd.func7, Tryd.ntmps7
    go_wp2_with fail
    refine (alive_any _ hS).mono ?_
    rintro e w1 ⟨rfl, a1⟩
    go_wp2_with fail
    refine (h1.out _).mono ?_
    rintro e w2 ⟨rfl, hb2⟩
    have a2 := a1.trans (hb2.mono a1.size)
    go_wp2_with fail
    refine (h5.out _).mono ?_
    rintro e w3 ⟨rfl, rfl⟩
    go_wp2_with fail
    refine (h2.out _).mono ?_
    rintro e w4 ⟨rfl, hb4⟩
    have a4 := a2.trans (hb4.mono a2.size)
    go_wp2_with fail
    refine (h6.out _).mono ?_
    rintro e w5 ⟨rfl, rfl⟩
    go_wp2_with fail
    refine (h3.out _).mono ?_
    rintro e w6 ⟨rfl, hb6⟩
    have a6 := a4.trans (hb6.mono a4.size)
    go_wp2_with fail
    refine (h7.out _).mono ?_
    rintro e w7 ⟨rfl, rfl⟩
    go_wp2_with fail
    refine (h4.out _).mono ?_
    rintro e w8 ⟨rfl, hb8⟩
    have a8 := a6.trans (hb8.mono a6.size)
    go_wp2_with fail
    go_ret
    exact ⟨rfl, a8⟩

theorem charJoins_out (a b : ByteArray) (w : World) (ha : a.size ≤ maxLen) (hb : b.size ≤ maxLen) (hS : Std w) (h : 500 < a.size ∨ 500 < b.size ∨ a = ⟨#[]⟩ ∨ b = ⟨#[]⟩) :
    Calls Tryd.prog 8 #[.string a, .string b] w fun e w' => e = .returned (.bool true) ∧ Below w.heap.size w w' := by
  unfold maxLen at ha hb
  rcases str_cases a with rfl | ⟨ha1, ha2, -⟩
  · by_cases h2 : 500 < b.size
    all_goals
      clear h
      go_enter Tryd.func8, Tryd.ntmps8
      go_wp2_with fail
      refine (alive_any _ hS).mono ?_
      rintro e w1 ⟨rfl, hb1⟩
      go_wp2_with fail
      go_ret
      exact ⟨rfl, hb1⟩
  · by_cases h1 : 500 < a.size
    · clear h
      go_enter Tryd.func8, Tryd.ntmps8
      go_wp2_with fail
      refine (alive_any _ hS).mono ?_
      rintro e w1 ⟨rfl, hb1⟩
      go_wp2_with fail
      go_ret
      exact ⟨rfl, hb1⟩
    · by_cases h2 : 500 < b.size
      · clear h
        go_enter Tryd.func8, Tryd.ntmps8
        go_wp2_with fail
        refine (alive_any _ hS).mono ?_
        rintro e w1 ⟨rfl, hb1⟩
        go_wp2_with fail
        go_ret
        exact ⟨rfl, hb1⟩
      · have hb0 : b = ⟨#[]⟩ := by
          rcases h with h | h | h | h
          · omega
          · omega
          · subst h; exact absurd (by rw [ByteArray.toList_eq]) ha1
          · exact h
        subst hb0
        clear h
        go_enter Tryd.func8, Tryd.ntmps8
        go_wp2_with fail
        refine (alive_any _ hS).mono ?_
        rintro e w1 ⟨rfl, hb1⟩
        go_wp2_with fail
        go_ret
        exact ⟨rfl, hb1⟩

theorem allS_join (p : Int → Bool) (a b : ByteArray) (ha : a.data.toList.isEmpty = false) (hb : b.data.toList.isEmpty = false) : allS p (a ++ b) = (allS p a && allS p b) := by
  unfold allS
  have h : (a.data.toList ++ b.data.toList).isEmpty = false := by
    cases hl : a.data.toList with
    | nil => rw [hl] at ha; cases ha
    | cons x l => rfl
  rw [ByteArray.data_append, Array.toList_append, List.all_append, ha, hb, h]
  simp

set_option maxHeartbeats 400000 in
theorem charJoins_walk (a b : ByteArray) (w : World) (ha : a.size ≤ maxLen) (hb : b.size ≤ maxLen) (hS : Std w) :
    Calls Tryd.prog 8 #[.string a, .string b] w fun e w' => e = .returned (.bool true) ∧ Below w.heap.size w w' := by
  by_cases h : 500 < a.size ∨ 500 < b.size ∨ a = ⟨#[]⟩ ∨ b = ⟨#[]⟩
  · exact charJoins_out a b w ha hb hS h
  · have hA : ¬ 500 < a.size := fun h' => h (.inl h')
    have hB : ¬ 500 < b.size := fun h' => h (.inr (.inl h'))
    rcases str_cases a with h' | ⟨ha1, ha2, ha3⟩
    · exact absurd (.inr (.inr (.inl h'))) h
    rcases str_cases b with h' | ⟨hb1, hb2, hb3⟩
    · exact absurd (.inr (.inr (.inr h'))) h
    have hab : (a ++ b).size ≤ maxLen := by rw [ByteArray.size_append]; unfold maxLen; omega
    have h1 := Lib.hid (allAtom (a ++ b) · hab)
    have h2 := Lib.hid (allText (a ++ b) · hab)
    rw [allS_join _ a b ha3 hb3] at h1 h2
    have h3 := Lib.hid (allText a · ha)
    have h4 := Lib.hid (allText b · hb)
    have h5 := Lib.hid (isAtomS_any a · ha)
    have h6 := Lib.hid (isAtomS_any b · hb)
    clear h hab ha3 hb3
    generalize allS atomB a = xa at *
    generalize allS atomB b = xb at *
    generalize allS textB a = ya at *
    generalize allS textB b = yb at *
    cases xa <;> cases ya
    all_goals
      go_enter Tryd.func8, Tryd.ntmps8
      go_wp2_with fail
      refine (alive_any _ hS).mono ?_
      rintro e w1 ⟨rfl, a1⟩
      go_wp2_with fail
      refine (h1.out _).mono ?_
      rintro e w2 ⟨rfl, hb2⟩
      have a2 := a1.trans (hb2.mono a1.size)
      go_wp2_with fail
      refine (h5.out _).mono ?_
      rintro e w3 ⟨rfl, rfl⟩
      go_wp2_with (go_at_call 24; refine (h6.out _).mono ?_; rintro e w4 ⟨rfl, rfl⟩)
      refine (h2.out _).mono ?_
      rintro e w5 ⟨rfl, hb5⟩
      have a5 := a2.trans (hb5.mono a2.size)
      go_wp2_with fail
      refine (h3.out _).mono ?_
      rintro e w6 ⟨rfl, hb6⟩
      have a6 := a5.trans (hb6.mono a5.size)
      first
        | (go_wp2_with fail
           go_ret
           exact ⟨rfl, a6⟩)
        | (go_wp2_with fail
           refine (h4.out _).mono ?_
           rintro e w7 ⟨rfl, hb7⟩
           have a7 := a6.trans (hb7.mono a6.size)
           go_wp2_with fail
           go_ret
           exact ⟨rfl, a7⟩)
end Go.Proofs.YtkohhonbeenloaaDoor
