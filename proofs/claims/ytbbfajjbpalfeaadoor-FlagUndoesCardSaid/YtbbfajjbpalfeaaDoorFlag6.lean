/- The walks of the reference's List, Change and Parse. -/
import Derived.Test.YtbbfajjbpalfeaaDoorFlag5
namespace Go.Proofs.YtbbfajjbpalfeaaDoor
open Go.RowKit

theorem and_bits64 (f k : Nat) (hf : f < 256) (hk : k < 5) : bits .and .i64 (f : Int) (pow2 k : Int) = ((f &&& 2 ^ k : Nat) : Int) := by
  have h : ∀ f : Fin 256, ∀ k : Fin 5, bits .and .i64 (f.val : Int) (pow2 k.val : Int) = ((f.val &&& 2 ^ k.val : Nat) : Int) := by decide +kernel
  exact h ⟨f, hf⟩ ⟨k, hk⟩
theorem and_self (f k : Nat) (hf : f < 256) (hk : k < 5) (h : f &&& 2 ^ k ≠ 0) : f &&& 2 ^ k = pow2 k := by
  have h0 : ∀ f : Fin 256, ∀ k : Fin 5, f.val &&& 2 ^ k.val ≠ 0 → f.val &&& 2 ^ k.val = pow2 k.val := by decide +kernel
  exact h0 ⟨f, hf⟩ ⟨k, hk⟩ h
theorem joinF_snoc (a : List UInt8) : ∀ L : List (List UInt8), L ≠ [] → joinF (L ++ [a]) = joinF L ++ 32 :: a
  | [], h => absurd rfl h
  | [b], _ => rfl
  | b :: c :: r, _ => by
    have ih := joinF_snoc a (c :: r) (by simp)
    show b ++ 32 :: joinF (c :: r ++ [a]) = (b ++ 32 :: joinF (c :: r)) ++ 32 :: a
    rw [ih]; simp
/-- What the reference has put together when k flags are done. -/
def accF (f k : Nat) : List UInt8 := joinF ((eachTo f k).map fname)
theorem fname_pow_ne (k : Nat) (hk : k < 5) : fname (2 ^ k) ≠ [] := by
  have h : ∀ k : Fin 5, fname (2 ^ k.val) ≠ [] := by decide
  exact h ⟨k, hk⟩
theorem accF_next0 (f k : Nat) (h : f &&& 2 ^ k = 0) : accF f (k + 1) = accF f k := by unfold accF; rw [eachTo_next, if_pos h]
theorem joinF_ne : ∀ L : List (List UInt8), (∀ x ∈ L, x ≠ []) → joinF L = [] → L = []
  | [], _, _ => rfl
  | [a], h, e => absurd e (h a (by simp))
  | a :: b :: r, h, e => by
    unfold joinF at e
    simp at e
theorem accF_next (f k : Nat) (hf : f < 256) (hk : k < 5) (h : f &&& 2 ^ k ≠ 0) : accF f (k + 1) = if accF f k = [] then fname (pow2 k) else accF f k ++ 32 :: fname (pow2 k) := by
  have e := and_self f k hf hk h
  unfold accF
  rw [eachTo_next, if_neg h, List.map_append, List.map_singleton, e]
  by_cases h0 : eachTo f k = []
  · rw [h0]; rfl
  · have h1 : (eachTo f k).map fname ≠ [] := by simpa using h0
    rw [if_neg, joinF_snoc _ _ h1]
    intro h2
    refine h1 (joinF_ne _ (fun x hx => ?_) h2)
    have h3 : ∀ f : Fin 256, ∀ k : Fin 5, ∀ x ∈ (eachTo f.val k.val).map fname, x ≠ [] := by decide +kernel
    exact h3 ⟨f, hf⟩ ⟨k, hk⟩ x hx
theorem accF_len (f k : Nat) (hk : k ≤ 5) : (accF f k).length ≤ 50 := by
  have h := joinF_len ((eachTo f k).map fname) 9 (fun x hx => by
    obtain ⟨y, _, rfl⟩ := List.mem_map.1 hx
    exact fname_len y)
  have h2 := eachTo_le f k
  rw [List.length_map] at h
  unfold accF
  omega
theorem str_add (a b : List UInt8) : ofL a ++ ofL b = ofL (a ++ b) := ofL_append a b

set_option maxRecDepth 100000 in
set_option maxHeartbeats 800000 in
theorem rList_any (f : Nat) (hf : f < 256) (w : World) :
    Calls Tryd.prog 16 #[.int .i64 f] w fun e w' => e = .returned (.string (ofL (listF f))) ∧ w = w' := by
  go_enter Tryd.func16, Tryd.ntmps16
  go_wp2_with fail
  go_loop [3, 4] (fun s i => ∃ k : Nat, k ≤ 5 ∧ i = .int .i64 (pow2 k : Nat) ∧ s = .string (ofL (accF f k))) (fun _ i => 32 - (intOf i).toNat)
  case atStart => exact ⟨0, by omega, rfl, rfl⟩
  case round =>
    obtain ⟨k, hk, rfl, rfl⟩ := hrel
    have hal := accF_len f k hk
    have has : (ofL (accF f k)).size ≤ 50 := by rw [ofL_size]; exact hal
    by_cases hlt : k < 5
    · obtain ⟨p1, p2, p3⟩ := pow2_lt hlt
      have HP3 := Lib.hid p3
      have hbits := and_bits64 f k hf hlt
      clear p3
      by_cases h0 : f &&& 2 ^ k = 0
      · have R := Lib.hid (accF_next0 f k h0)
        rw [h0] at hbits
        clear h0
        generalize pow2 k = x at *
        generalize accF f k = acc at *
        go_wp2_with fail
        go_round
        case rel => exact ⟨k + 1, by omega, by rw [HP3.out]; go_num, by rw [R.out]⟩
        case measure => simp [intOf]; omega
      · have R := Lib.hid (accF_next f k hf hlt h0)
        rw [and_self f k hf hlt h0] at hbits
        have HN := Lib.hid (fun w => rName_any (pow2 k) (by omega) w)
        have hns : (ofL (fname (pow2 k))).size ≤ 9 := by rw [ofL_size]; exact fname_len _
        have hb0 : ((pow2 k : Int) == 0) = false := by rw [beq_eq_false_iff_ne]; omega
        clear h0
        generalize pow2 k = x at *
        generalize fname x = nm at *
        generalize accF f k = acc at *
        by_cases hac : acc = []
        · subst hac
          have R2 : Hid (accF f (k + 1) = nm) := Lib.hid (by rw [R.out, if_pos rfl])
          rw [show ofL [] = ⟨#[]⟩ from rfl]
          clear R has hal
          go_wp2_with fail
          refine (HN.out _).mono ?_
          rintro e w1 ⟨rfl, rfl⟩
          go_wp2_with fail
          go_round
          case rel => exact ⟨k + 1, by omega, by rw [HP3.out]; go_num, by rw [R2.out, show (⟨#[]⟩ : ByteArray) = ofL [] from rfl, str_add]; rfl⟩
          case measure => simp [intOf]; omega
        · have R2 : Hid (accF f (k + 1) = acc ++ 32 :: nm) := Lib.hid (by rw [R.out, if_neg hac])
          have e1 : ¬ (ofL acc).toList = [] := by rw [ByteArray.toList_eq, ofL_data]; exact hac
          have e2 : (ofL acc).toList.isEmpty = false := by rw [ByteArray.toList_eq, ofL_data]; cases acc with | nil => exact absurd rfl hac | cons _ _ => rfl
          have e3 : acc.isEmpty = false := by cases acc with | nil => exact absurd rfl hac | cons _ _ => rfl
          clear R hac
          go_wp2_with fail
          refine (HN.out _).mono ?_
          rintro e w1 ⟨rfl, rfl⟩
          go_wp2_with fail
          go_round
          case rel => exact ⟨k + 1, by omega, by rw [HP3.out]; go_num, by rw [R2.out, show (⟨#[32]⟩ : ByteArray) = ofL [32] from rfl, str_add, str_add]; simp⟩
          case measure => simp [intOf]; omega
    · obtain rfl : k = 5 := by omega
      have R : Hid (listF f = 40 :: (accF f 5 ++ [41])) := Lib.hid rfl
      have e32 : pow2 5 = 32 := rfl
      rw [e32]
      clear e32
      generalize accF f 5 = acc at *
      go_wp2_with fail
      go_ret
      exact ⟨by rw [R.out, ← paren]; rfl, rfl⟩

def chgV (o : Option Nat) : Int := match o with | none => -1 | some x => (x : Int)
set_option maxRecDepth 100000 in
theorem rChange_any (o f : Nat) (mode : Int) (w : World) (ho : o < 256) (hf : f < 256) :
    Calls Tryd.prog 18 #[.int .i64 o, .int .i64 mode, .int .i64 f] w fun e w' => e = .returned (.int .i64 (chgV (changeB o mode f))) ∧ w = w' := by
  by_cases h1 : 31 < o ∨ 31 < f
  · have R : changeB o mode f = none := by unfold changeB; rw [if_pos h1]
    rw [R]
    rw [show chgV none = -1 from rfl]
    by_cases h2 : 31 < o
    · clear h1 R
      go_enter Tryd.func18, Tryd.ntmps18
      go_wp2_with fail
      go_ret
      exact ⟨rfl, rfl⟩
    · have h3 : 31 < f := by omega
      clear h1 R
      go_enter Tryd.func18, Tryd.ntmps18
      go_wp2_with fail
      go_ret
      exact ⟨rfl, rfl⟩
  · have R0 : changeB o mode f = if mode = 0 then some f else if mode = 1 then some (o ||| f) else if mode = 2 then some (andNot o f) else none := by unfold changeB; rw [if_neg h1]
    rw [R0]
    have ho2 : ¬ 31 < o := fun h => h1 (.inl h)
    have hf2 : ¬ 31 < f := fun h => h1 (.inr h)
    clear h1 R0
    have b1 := (or_bits o f (by omega) (by omega)).2.1
    have b2 := (andNot_bits o f (by omega) (by omega)).2.1
    generalize o ||| f = x1 at *
    generalize andNot o f = x2 at *
    by_cases q0 : mode = 0
    · subst q0
      rw [if_pos rfl, show chgV (some f) = (f : Int) from rfl]
      go_enter Tryd.func18, Tryd.ntmps18
      go_wp2_with fail
      go_ret
      exact ⟨rfl, rfl⟩
    · rw [if_neg q0]
      by_cases q1 : mode = 1
      · subst q1
        rw [if_pos rfl, show chgV (some x1) = (x1 : Int) from rfl]
        clear q0
        go_enter Tryd.func18, Tryd.ntmps18
        go_wp2_with fail
        go_ret
        exact ⟨rfl, rfl⟩
      · rw [if_neg q1]
        by_cases q2 : mode = 2
        · subst q2
          rw [if_pos rfl, show chgV (some x2) = (x2 : Int) from rfl]
          clear q0 q1
          go_enter Tryd.func18, Tryd.ntmps18
          go_wp2_with fail
          go_ret
          exact ⟨rfl, rfl⟩
        · rw [if_neg q2, show chgV none = -1 from rfl]
          have c0 : (mode == 0) = false := by rw [beq_eq_false_iff_ne]; exact q0
          have c1 : (mode == 1) = false := by rw [beq_eq_false_iff_ne]; exact q1
          have c2 : (mode == 2) = false := by rw [beq_eq_false_iff_ne]; exact q2
          clear q0 q1 q2
          go_enter Tryd.func18, Tryd.ntmps18
          go_wp2_with fail
          go_ret
          exact ⟨rfl, rfl⟩
end Go.Proofs.YtbbfajjbpalfeaaDoor
