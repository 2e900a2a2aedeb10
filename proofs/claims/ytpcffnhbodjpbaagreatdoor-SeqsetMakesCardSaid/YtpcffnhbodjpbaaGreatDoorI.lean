/- Plain laws on decimal forms: the number that a string denotes, by the reference's way and by strconv's. The walk of package char's Number. -/
import Derived.Test.YtpcffnhbodjpbaaGreatDoorF
import Derived.Lib.ParseIntBCases
import Derived.Test.YtpcffnhbodjpbaaGreatDoorG
set_option linter.unusedVariables false
set_option linter.unusedSimpArgs false
namespace Go.Proofs.YtpcffnhbodjpbaaGreatDoor
open Go.Lib

theorem dig_nat (d : Nat) (h : d < 10) : (UInt8.ofNat (48 + d)).toNat = 48 + d := by
  rw [UInt8.toNat_ofNat']; omega
theorem decDigits_small (n : Nat) (h : n < 10) : decDigits n = [UInt8.ofNat (48 + n)] := by rw [decDigits, dif_pos h]
theorem decDigits_big (n : Nat) (h : ¬ n < 10) : decDigits n = decDigits (n / 10) ++ [UInt8.ofNat (48 + n % 10)] := by rw [decDigits, dif_neg h]

theorem parseM_append (M : Nat) (r : List UInt8) : ∀ (l : List UInt8) (a : Nat) (b : Nat), parseUintM M a l = .ok b → parseUintM M a (l ++ r) = parseUintM M b r := by
  intro l
  induction l with
  | nil => intro a b h; rw [parseUintM] at h; injection h with h; subst h; rfl
  | cons c l ih =>
    intro a b h
    rw [List.cons_append]
    rw [parseUintM] at h ⊢
    split at h
    · rename_i h1
      rw [if_pos h1]
      split at h
      · cases h
      · rename_i h2
        rw [if_neg h2]
        split at h
        · cases h
        · rename_i h3
          rw [if_neg h3]
          exact ih _ _ h
    · cases h

theorem parseM_dec (M : Nat) (hM : M ≤ 4294967295) (n : Nat) (hn : n ≤ M) : parseUintM M 0 (decDigits n) = .ok n := by
  induction n using Nat.strongRecOn with
  | _ n ih =>
    by_cases h : n < 10
    · rw [decDigits_small n h, parseUintM, dig_nat n h, if_pos ⟨by omega, by omega⟩, if_neg (by omega), if_neg (by omega), parseUintM]
      congr 1; omega
    · rw [decDigits_big n h, parseM_append M _ _ _ _ (ih (n / 10) (by omega) (by omega)), parseUintM, dig_nat _ (by omega), if_pos ⟨by omega, by omega⟩, if_neg (by omega), if_neg (by omega), parseUintM]
      congr 1; omega
theorem decDigits_ne (n : Nat) : decDigits n ≠ [] := by
  intro h
  have := congrArg List.length h
  rw [decDigits_length] at this
  have := nDigits_pos n
  simp at *
  omega
theorem parse_dec (n : Nat) (hn : n ≤ 4294967295) : parseUintB 32 (decDigits n) = .ok n := by
  rw [parseUintB, if_neg (decDigits_ne n)]
  exact parseM_dec _ (by decide) n (by simpa using hn)

theorem val_dec (n : Nat) : valL (decDigits n) = n ∧ (decDigits n).all digitB = true := by
  induction n using Nat.strongRecOn with
  | _ n ih =>
    by_cases h : n < 10
    · rw [decDigits_small n h]
      refine ⟨?_, ?_⟩
      · show 10 * 0 + ((UInt8.ofNat (48 + n)).toNat - 48) = n
        rw [dig_nat n h]; omega
      · rw [List.all_cons, List.all_nil, Bool.and_true]
        unfold digitB
        rw [dig_nat n h, decide_eq_true (by omega), decide_eq_true (by omega)]; rfl
    · rw [decDigits_big n h, valL_snoc, (ih (n / 10) (by omega)).1, dig_nat _ (by omega), List.all_append, (ih (n / 10) (by omega)).2]
      refine ⟨by omega, ?_⟩
      rw [List.all_cons, List.all_nil, Bool.and_true, Bool.true_and]
      unfold digitB
      rw [dig_nat _ (by omega), decide_eq_true (by omega), decide_eq_true (by omega)]; rfl
theorem decDigits_len (n : Nat) (hn : n ≤ 4294967295) : (decDigits n).length ≤ 10 := by
  rw [decDigits_length]
  rcases Nat.lt_or_ge n 1 with h | h
  · rw [nDigits_small (by omega)]; omega
  · have h1 : ∀ k u : Nat, u < 10 ^ (k + 1) → nDigits u ≤ k + 1 := by
      intro k
      induction k with
      | zero => intro u hu; rw [nDigits_small (by simpa using hu)]; omega
      | succ k ih =>
        intro u hu
        by_cases h10 : u < 10
        · rw [nDigits_small h10]; omega
        · rw [nDigits_big h10]
          have := ih (u / 10) (by rw [Nat.pow_succ] at hu; omega)
          omega
    exact h1 9 n (by omega)

/-- 'numB' says: the bytes are the decimal form of a number below 2 to the 32. -/
theorem numB_some {l : List UInt8} {n : Nat} (h : numB l = some n) : n ≤ 4294967295 ∧ l = decDigits n := by
  unfold numB at h
  split at h
  · cases h
  · split at h
    · split at h
      · cases h
      · rename_i h3
        injection h with h
        subst h
        have : ¬ decDigits (valL l) ≠ l := fun e => h3 (.inr e)
        exact ⟨by omega, (Decidable.not_not.1 this).symm⟩
    · cases h
theorem numB_dec (n : Nat) (hn : n ≤ 4294967295) : numB (decDigits n) = some n := by
  have hl := decDigits_len n hn
  unfold numB
  rw [if_neg (by omega), if_pos (val_dec n).2, (val_dec n).1, if_neg (by simp; omega)]
theorem numB_none_of_parse {l : List UInt8} (h : ∀ u, parseUintB 32 l ≠ .ok u) : numB l = none := by
  cases hx : numB l with
  | none => rfl
  | some n =>
    obtain ⟨h1, rfl⟩ := numB_some hx
    exact absurd (parse_dec n h1) (h n)
theorem numB_of_parse {l : List UInt8} {u : Nat} (h : parseUintB 32 l = .ok u) : numB l = if decDigits u = l then some u else none := by
  have hu := parseUintB_le h
  split
  · rename_i e; rw [← e]; exact numB_dec u (by simpa using hu)
  · rename_i e
    cases hx : numB l with
    | none => rfl
    | some n =>
      obtain ⟨h1, rfl⟩ := numB_some hx
      rw [parse_dec n h1] at h
      injection h with h
      exact absurd (by rw [h]) e
theorem numB_le {l : List UInt8} {n : Nat} (h : numB l = some n) : n < 4294967296 := by have := (numB_some h).1; omega
end Go.Proofs.YtpcffnhbodjpbaaGreatDoor

namespace Go.Proofs.YtpcffnhbodjpbaaGreatDoor
open Go.RowKit

theorem number_err (s : ByteArray) (v : Int) (w : World) (H : Calls Tryz.prog 62 #[.string s, .int .i64 10, .int .i64 32] w fun e w' => ∃ N, e = .returned (.tuple #[.int .u64 v, .iface 135 (.pointer (some ⟨N, 0, none⟩))]) ∧ Below w.heap.size w w') :
    Calls Tryz.prog 45 #[.string s] w fun e w' => e = .returned (.tuple #[.int .u32 0, .bool false]) ∧ Below w.heap.size w w' := by
  have HH := Lib.hid H
  clear H
  go_enter Tryz.func45, Tryz.ntmps45
  go_wp2_with (go_at_call 62; refine HH.out.mono ?_; rintro e w' ⟨N, rfl, hb⟩)
  go_ret2
  exact ⟨rfl, hb⟩

theorem numV_none : numV none = .tuple #[.int .u32 0, .bool false] := rfl
theorem numV_some (u : Nat) : numV (some u) = .tuple #[.int .u32 u, .bool true] := rfl

set_option maxRecDepth 100000 in
set_option maxHeartbeats 400000 in
theorem number_any (s : ByteArray) (w : World) (hs : s.size ≤ 1048576) (hS : Std w) :
    Calls Tryz.prog 45 #[.string s] w fun e w' => e = .returned (numV (numB s.data.toList)) ∧ Below w.heap.size w w' := by
  rcases hp : Lib.parseUintB 32 s.data.toList with u | _ | _
  rotate_left
  · rw [numB_none_of_parse (by rw [hp]; rintro u ⟨⟩), numV_none]
    obtain ⟨t, p, hv⟩ := hS.syn
    exact number_err s 0 w ((Any.strconv_ParseUint_10_at32_syntax_var Tryz.laysPu14 s (by omega) hp t p w hv).mono fun e w' ⟨N, he, _, _, hb⟩ => ⟨N, he, hb⟩)
  · rw [numB_none_of_parse (by rw [hp]; rintro u ⟨⟩), numV_none]
    obtain ⟨t, p, hv⟩ := hS.rng
    exact number_err s 4294967295 w ((Tryz.strconv_ParseUint_10_at32_range_var s (by omega) hp t p w hv).mono fun e w' ⟨N, he, _, _, hb⟩ => ⟨N, he, hb⟩)
  · have hu : u < 4294967296 := by have := Lib.parseUintB_le hp; simp at this; omega
    have H28 := Lib.hid (Tryz.strconv_ParseUint_10_at32_ok s (by omega) u hp w)
    have hN := numB_of_parse hp
    have hbw := Lib.bytesWorld_below w 5 s
    clear hp
    have H21 : Hid (∀ w', Below w.heap.size w w' → Calls Tryz.prog 39 #[.int .u32 u] w' fun e w'' => e = .returned (.string (ofL (Lib.decDigits u))) ∧ Below w.heap.size w w'') :=
      Lib.hid fun w' hb => (decimal_any u w' hu (hS.below hb)).mono fun e w'' ⟨he, hb2⟩ => ⟨he, hb.trans (hb2.mono hb.size)⟩
    clear hS
    generalize hx : ofL (Lib.decDigits u) = x at H21
    have HBW := Lib.hid hbw
    clear hbw
    by_cases he : x.toList = s.toList
    · have R : Hid (numB s.data.toList = some u) := Lib.hid (by
        rw [ByteArray.toList_eq, ByteArray.toList_eq, ← hx, ofL_data] at he
        rw [hN, if_pos he])
      have e1 : (x.toList == s.toList) = true := by rw [beq_iff_eq]; exact he
      have e2 : (x.toList != s.toList) = false := by rw [bne, e1]; rfl
      rw [R.out, numV_some]
      clear hx he hN
      go_enter Tryz.func45, Tryz.ntmps45
      go_wp2_with fail
      refine H28.out.mono ?_
      rintro e w' ⟨rfl, hw⟩
      have hb : Below w.heap.size w w' := by
        rcases hw with rfl | rfl
        · exact Below.refl _ _
        · exact HBW.out
      clear hw
      go_wp2_with fail
      refine (H21.out _ hb).mono ?_
      rintro e w2 ⟨rfl, hb2⟩
      go_wp2_with fail
      go_ret2
      exact ⟨rfl, hb2⟩
    · have R : Hid (numB s.data.toList = none) := Lib.hid (by
        have hne : Lib.decDigits u ≠ s.data.toList := fun h => he (by rw [ByteArray.toList_eq, ByteArray.toList_eq, ← hx, ofL_data]; exact h)
        rw [hN, if_neg hne])
      have e1 : (x.toList == s.toList) = false := by rw [beq_eq_false_iff_ne]; exact he
      have e2 : (x.toList != s.toList) = true := by rw [bne, e1]; rfl
      rw [R.out, numV_none]
      clear hx he hN
      go_enter Tryz.func45, Tryz.ntmps45
      go_wp2_with fail
      refine H28.out.mono ?_
      rintro e w' ⟨rfl, hw⟩
      have hb : Below w.heap.size w w' := by
        rcases hw with rfl | rfl
        · exact Below.refl _ _
        · exact HBW.out
      clear hw
      go_wp2_with fail
      refine (H21.out _ hb).mono ?_
      rintro e w2 ⟨rfl, hb2⟩
      go_wp2_with fail
      go_ret2
      exact ⟨rfl, hb2⟩
end Go.Proofs.YtpcffnhbodjpbaaGreatDoor
