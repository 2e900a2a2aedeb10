/- The walks of the reference's Name, flag, List and Change. -/
import Derived.Test.YtbbfajjbpalfeaaDoorFlag4
namespace Go.Proofs.YtbbfajjbpalfeaaDoor
open Go.RowKit

set_option maxRecDepth 100000 in
theorem rName_any (f : Nat) (hf : f < 256) (w : World) : Calls Tryd.prog 12 #[.int .i64 f] w fun e w' => e = .returned (.string (ofL (fname f))) ∧ w = w' := by
  by_cases h1 : f = 1
  · subst h1
    go_enter Tryd.func12, Tryd.ntmps12
    go_wp2
    go_ret
    exact ⟨rfl, rfl⟩
  · by_cases h2 : f = 2
    · subst h2
      go_enter Tryd.func12, Tryd.ntmps12
      go_wp2
      go_ret
      exact ⟨rfl, rfl⟩
    · by_cases h4 : f = 4
      · subst h4
        go_enter Tryd.func12, Tryd.ntmps12
        go_wp2
        go_ret
        exact ⟨rfl, rfl⟩
      · by_cases h8 : f = 8
        · subst h8
          go_enter Tryd.func12, Tryd.ntmps12
          go_wp2
          go_ret
          exact ⟨rfl, rfl⟩
        · by_cases h16 : f = 16
          · subst h16
            go_enter Tryd.func12, Tryd.ntmps12
            go_wp2
            go_ret
            exact ⟨rfl, rfl⟩
          · have R : fname f = [] := by unfold fname; rw [if_neg h1, if_neg h2, if_neg h4, if_neg h8, if_neg h16]
            rw [R]
            have b1 : ((f : Int) == 1) = false := by rw [beq_eq_false_iff_ne]; omega
            have b2 : ((f : Int) == 2) = false := by rw [beq_eq_false_iff_ne]; omega
            have b4 : ((f : Int) == 4) = false := by rw [beq_eq_false_iff_ne]; omega
            have b8 : ((f : Int) == 8) = false := by rw [beq_eq_false_iff_ne]; omega
            have b16 : ((f : Int) == 16) = false := by rw [beq_eq_false_iff_ne]; omega
            clear R h1 h2 h4 h8 h16
            go_enter Tryd.func12, Tryd.ntmps12
            go_wp2
            go_ret
            exact ⟨rfl, rfl⟩

theorem flag_hit {k : Nat} {wd : List UInt8} (hk : k < 5) (h : (fname (2 ^ k)).map upB = wd.map upB) : flagVal wd = some (2 ^ k) := by
  unfold flagVal
  rw [← h]
  have h : ∀ k : Fin 5, flagUp ((fname (2 ^ k.val)).map upB) = some (2 ^ k.val) := by decide +kernel
  exact h ⟨k, hk⟩
theorem flag_miss {wd : List UInt8} (h : ∀ j, j < 5 → (fname (2 ^ j)).map upB ≠ wd.map upB) : flagVal wd = none := by
  have h0 := h 0 (by omega)
  have h1 := h 1 (by omega)
  have h2 := h 2 (by omega)
  have h3 := h 3 (by omega)
  have h4 := h 4 (by omega)
  unfold flagVal
  generalize wd.map upB = u at *
  unfold flagUp flagTab
  simp only [List.find?_cons, List.find?_nil]
  rw [decide_eq_false (fun e => h0 e.symm), decide_eq_false (fun e => h1 e.symm), decide_eq_false (fun e => h2 e.symm), decide_eq_false (fun e => h3 e.symm), decide_eq_false (fun e => h4 e.symm)]
  rfl
theorem upS_ofL (l : List UInt8) : upS (ofL l) = ofL (l.map upB) := by unfold upS; rw [ofL_data]; rfl
theorem str_eq (a b : List UInt8) : ((ofL a).toList == (ofL b).toList) = decide (a = b) := by
  rw [ByteArray.toList_eq, ByteArray.toList_eq, ofL_data, ofL_data, Bool.eq_iff_iff, beq_iff_eq, decide_eq_true_eq]
def pow2 (k : Nat) : Nat := 2 ^ k
theorem pow2_lt {k : Nat} (hk : k < 5) : pow2 k ≤ 16 ∧ 0 < pow2 k ∧ pow2 (k + 1) = 2 * pow2 k := by
  have h : ∀ k : Fin 5, pow2 k.val ≤ 16 ∧ 0 < pow2 k.val ∧ pow2 (k.val + 1) = 2 * pow2 k.val := by decide
  exact h ⟨k, hk⟩

set_option maxRecDepth 100000 in
set_option maxHeartbeats 800000 in
theorem rFlag_any (wd : List UInt8) (hl : wd.length ≤ 1048576) (w : World) :
    Calls Tryd.prog 25 #[.string (ofL wd)] w fun e w' => e = .returned (.int .i64 (((flagVal wd).getD 0 : Nat) : Int)) ∧ Below w.heap.size w w' := by
  have hsz : (ofL wd).size ≤ 1048576 := by rw [ofL_size]; exact hl
  have H2 := Lib.hid (fun w => rUpper_any (ofL wd) w hsz)
  clear hsz
  go_enter Tryd.func25, Tryd.ntmps25
  go_wp2_with fail
  go_loopw [3] (fun f wr => ∃ k : Nat, k ≤ 5 ∧ f = .int .i64 (pow2 k : Nat) ∧ (∀ j, j < k → (fname (2 ^ j)).map upB ≠ wd.map upB) ∧ Below w.heap.size w wr) (fun f _ => 32 - (intOf f).toNat)
  case atStart => exact ⟨0, by omega, rfl, fun j hj => absurd hj (by omega), Below.refl _ _⟩
  case round =>
    obtain ⟨k, hk, rfl, hno, hb⟩ := hrel
    by_cases hlt : k < 5
    · obtain ⟨p1, p2, p3⟩ := pow2_lt hlt
      have HP3 := Lib.hid p3
      have HN := Lib.hid (rName_any (pow2 k) (by omega) wr)
      have HU := Lib.hid (rUpper_any (ofL (fname (pow2 k))) wr (by rw [ofL_size]; have := fname_len (pow2 k); omega))
      have HI := Lib.hid (And.intro hno hb)
      have hse := str_eq ((fname (pow2 k)).map upB) (wd.map upB)
      have HX : Hid (pow2 k = 2 ^ k) := Lib.hid rfl
      clear p3 hno hb
      by_cases heq : (fname (pow2 k)).map upB = wd.map upB
      · have R := Lib.hid (flag_hit hlt heq)
        rw [decide_eq_true heq] at hse
        rw [upS_ofL] at HU
        have HU2 := Lib.hid (fun w => by have := H2.out w; rw [upS_ofL] at this; exact this)
        clear heq H2
        generalize pow2 k = x at *
        generalize (fname x).map upB = u at *
        generalize wd.map upB = v at *
        clear hk
        go_wp2_with fail
        refine HN.out.mono ?_
        rintro e w1 ⟨rfl, rfl⟩
        go_wp2_with fail
        refine HU.out.mono ?_
        rintro e w2 ⟨rfl, hb2⟩
        have HB2 := Lib.hid hb2
        clear hb2
        go_wp2_with fail
        refine (HU2.out _).mono ?_
        rintro e w3 ⟨rfl, hb3⟩
        have HB3 := Lib.hid hb3
        clear hb3
        go_wp2_with fail
        go_ret
        refine ⟨by rw [R.out, Option.getD_some, ← HX.out]; rfl, ?_⟩
        have hb := HI.out.2
        have h2 := HB2.out
        exact (hb.trans (h2.mono hb.size)).trans (HB3.out.mono (Nat.le_trans hb.size h2.size))
      · rw [decide_eq_false heq] at hse
        rw [upS_ofL] at HU
        have HU2 := Lib.hid (fun w => by have := H2.out w; rw [upS_ofL] at this; exact this)
        have HEQ := Lib.hid heq
        clear heq
        generalize pow2 k = x at *
        generalize hu : (fname x).map upB = u at *
        have HUU := Lib.hid hu
        generalize hv : wd.map upB = v at *
        clear hk hu hv
        go_wp2_with fail
        refine HN.out.mono ?_
        rintro e w1 ⟨rfl, rfl⟩
        go_wp2_with fail
        refine HU.out.mono ?_
        rintro e w2 ⟨rfl, hb2⟩
        have HB2 := Lib.hid hb2
        clear hb2
        go_wp2_with fail
        refine (HU2.out _).mono ?_
        rintro e w3 ⟨rfl, hb3⟩
        have HB3 := Lib.hid hb3
        clear hb3
        go_wp2_with fail
        go_roundw
        case rel =>
          have hb := HI.out.2
          have h2 := HB2.out
          refine ⟨k + 1, by omega, by rw [HP3.out]; go_num, fun j hj => ?_, (hb.trans (h2.mono hb.size)).trans (HB3.out.mono (Nat.le_trans hb.size h2.size))⟩
          rcases Nat.lt_or_ge j k with h | h
          · exact HI.out.1 j h
          · obtain rfl : j = k := by omega
            rw [← HX.out, HUU.out]; exact HEQ.out
        case measure => simp [intOf]; omega
    · obtain rfl : k = 5 := by omega
      have R := Lib.hid (flag_miss hno)
      have HB := Lib.hid hb
      clear hno hb
      have e32 : pow2 5 = 32 := rfl
      rw [e32]
      clear e32
      go_wp2_with fail
      go_ret
      exact ⟨by rw [R.out]; rfl, HB.out⟩
end Go.Proofs.YtbbfajjbpalfeaaDoor
