/- Plain laws on the forms of strings: what the program's and the reference's ways of finding an announced length give is one. -/
import Derived.Test.YthoccgkkgnlbpaaDoorH
namespace Go.Proofs.YthoccgkkgnlbpaaDoor
open Go.Lib

def qesc (c : UInt8) : List UInt8 := if c.toNat = 34 ∨ c.toNat = 92 then [92, c] else [c]
/-- The quoted form, if all bytes are text bytes. -/
def quoB (l : List UInt8) : Option (List UInt8) := if l.all (fun b => textB b.toNat) then some (34 :: (l.flatMap qesc ++ [34])) else none
/-- The head of the literal form of n bytes. -/
def litH (n : Nat) : List UInt8 := 123 :: (decDigits n ++ [125, 13, 10])
def litB (l : List UInt8) : List UInt8 := litH l.length ++ l
def bestB (l : List UInt8) : List UInt8 := (quoB l).getD (litB l)

/-- Where the last byte c is, from the end. -/
def lastIx (c : UInt8) : List UInt8 → Option Nat
  | [] => none
  | x :: l => match lastIx c l with
    | some i => some (i + 1)
    | none => if x = c then some 0 else none

/-- The program's way. -/
def annP (l : List UInt8) : Option Nat :=
  if l.getLast? = some 125 then (match lastIx 123 l.dropLast with | none => none | some i => numB (l.dropLast.drop (i + 1))) else none
/-- The reference's way: 'at' is where the digits at the end begin. -/
def digStart : List UInt8 → Nat
  | [] => 0
  | x :: l => if (x :: l).all digitB then 0 else digStart l + 1
def annR (l : List UInt8) : Option Nat :=
  if l.getLast? = some 125 then
    (match numB (l.dropLast.drop (digStart l.dropLast)) with
      | none => none
      | some x => if 0 < digStart l.dropLast ∧ l.dropLast[digStart l.dropLast - 1]? = some 123 then some x else none)
  else none

theorem lastIx_split {c : UInt8} : ∀ {l : List UInt8} {i : Nat}, lastIx c l = some i → ∃ a b, l = a ++ c :: b ∧ a.length = i ∧ c ∉ b
  | [], _, h => by cases h
  | x :: l, i, h => by
    unfold lastIx at h
    cases hl : lastIx c l with
    | some j =>
      rw [hl] at h
      injection h with h
      obtain ⟨a, b, rfl, ha, hb⟩ := lastIx_split hl
      exact ⟨x :: a, b, rfl, by rw [List.length_cons, ha, h], hb⟩
    | none =>
      rw [hl] at h
      by_cases hx : x = c
      · subst hx
        rw [if_pos rfl] at h
        injection h with h
        refine ⟨[], l, rfl, by rw [← h]; rfl, ?_⟩
        exact lastIx_none hl
      · rw [if_neg hx] at h; cases h
where
  lastIx_none {c : UInt8} : ∀ {l : List UInt8}, lastIx c l = none → c ∉ l
    | [], _ => by simp
    | x :: l, h => by
      unfold lastIx at h
      cases hl : lastIx c l with
      | some j => rw [hl] at h; cases h
      | none =>
        rw [hl] at h
        have h1 := lastIx_none hl
        by_cases hx : x = c
        · rw [if_pos hx] at h; cases h
        · intro hm
          rcases List.mem_cons.1 hm with e | e
          · exact hx e.symm
          · exact h1 e
theorem lastIx_none' {c : UInt8} {l : List UInt8} (h : lastIx c l = none) : c ∉ l := lastIx_split.lastIx_none h
theorem lastIx_mk {c : UInt8} {b : List UInt8} (hb : c ∉ b) : ∀ a : List UInt8, lastIx c (a ++ c :: b) = some a.length
  | [] => by
    have hn : lastIx c b = none := by
      cases h : lastIx c b with
      | none => rfl
      | some i => obtain ⟨x, y, rfl, _, _⟩ := lastIx_split h; exact absurd (by simp) hb
    show lastIx c (c :: b) = some 0
    unfold lastIx
    rw [hn, if_pos rfl]
  | x :: a => by
    show lastIx c (x :: (a ++ c :: b)) = _
    unfold lastIx
    rw [lastIx_mk hb a]
    rfl

theorem numB_digits {l : List UInt8} {n : Nat} (h : numB l = some n) : l.all digitB = true ∧ l ≠ [] := by
  obtain ⟨_, rfl⟩ := numB_some h
  exact ⟨(val_dec n).2, decDigits_ne n⟩

theorem digStart_split : ∀ l : List UInt8, ∃ a b, l = a ++ b ∧ a.length = digStart l ∧ b.all digitB = true ∧ (a = [] ∨ ∃ a' x, a = a' ++ [x] ∧ digitB x = false)
  | [] => ⟨[], [], rfl, rfl, rfl, .inl rfl⟩
  | x :: l => by
    unfold digStart
    by_cases h : (x :: l).all digitB = true
    · rw [if_pos h]; exact ⟨[], x :: l, rfl, rfl, h, .inl rfl⟩
    · rw [if_neg h]
      obtain ⟨a, b, e, ha, hb, hs⟩ := digStart_split l
      refine ⟨x :: a, b, by rw [List.cons_append, ← e], by rw [List.length_cons, ha], hb, .inr ?_⟩
      rcases hs with rfl | ⟨a', y, rfl, hy⟩
      · refine ⟨[], x, rfl, ?_⟩
        rw [List.nil_append] at e
        subst e
        rw [List.all_cons, hb, Bool.and_true] at h
        exact Bool.eq_false_iff.2 h
      · exact ⟨x :: a', y, rfl, hy⟩
theorem digStart_mk {b : List UInt8} (hb : b.all digitB = true) : ∀ (a : List UInt8) (x : UInt8), digitB x = false → digStart (a ++ x :: b) = a.length + 1
  | [], x, hx => by
    show digStart (x :: b) = 1
    unfold digStart
    rw [List.all_cons, hx, Bool.false_and, if_neg (by simp)]
    cases b with
    | nil => rfl
    | cons y b => unfold digStart; rw [if_pos hb]
  | z :: a, x, hx => by
    show digStart (z :: (a ++ x :: b)) = _
    unfold digStart
    rw [if_neg (by rw [List.all_cons, List.all_append, List.all_cons, hx]; simp), digStart_mk hb a x hx]
    rfl

theorem digit_ne123 {x : UInt8} (h : digitB x = true) : x ≠ 123 := by
  rintro rfl
  revert h
  decide

theorem ann_eq (l : List UInt8) : annP l = annR l := by
  unfold annP annR
  split
  · generalize l.dropLast = m
    cases hx : numB (m.drop (digStart m)) with
    | some n =>
      obtain ⟨hd, hne⟩ := numB_digits hx
      obtain ⟨a, b, rfl, ha, hb, hs⟩ := digStart_split m
      have hdrop : (a ++ b).drop (digStart (a ++ b)) = b := by rw [← ha, List.drop_left]
      rw [hdrop] at hx
      rcases hs with rfl | ⟨a', y, rfl, hy⟩
      · rw [List.nil_append] at ha ⊢
        have h0 : digStart b = 0 := ha.symm
        simp only [h0]
        rw [if_neg (by simp)]
        cases hl : lastIx 123 b with
        | none => rfl
        | some i =>
          obtain ⟨u, v, rfl, _, _⟩ := lastIx_split hl
          exact absurd rfl (digit_ne123 (List.all_eq_true.1 hb 123 (by simp)))
      · have hds : digStart (a' ++ [y] ++ b) = a'.length + 1 := by rw [List.append_assoc]; exact digStart_mk hb a' y hy
        simp only [hds]
        have hget : (a' ++ [y] ++ b)[a'.length + 1 - 1]? = some y := by simp
        rw [hget]
        by_cases h123 : y = 123
        · subst h123
          rw [if_pos ⟨by omega, rfl⟩, List.append_assoc, List.singleton_append, lastIx_mk (fun hm => digit_ne123 (List.all_eq_true.1 hb 123 hm) rfl) a']
          show numB ((a' ++ 123 :: b).drop (a'.length + 1)) = some n
          rw [← List.drop_drop, List.drop_left]
          exact hx
        · rw [if_neg (by rintro ⟨_, h⟩; injection h with h; exact h123 h)]
          cases hl : lastIx 123 (a' ++ [y] ++ b) with
          | none => rfl
          | some i =>
            obtain ⟨u, v, e, hu, hv⟩ := lastIx_split hl
            show numB ((a' ++ [y] ++ b).drop (i + 1)) = none
            rw [e, ← hu, ← List.drop_drop, List.drop_left]
            show numB v = none
            cases hn : numB v with
            | none => rfl
            | some k =>
              have hvd := (numB_digits hn).1
              have := digStart_mk hvd u 123 (by decide)
              rw [← e, hds] at this
              have hua : u.length = a'.length := by omega
              have h1 : (a' ++ [y] ++ b)[a'.length]? = some y := by simp
              have h2 : (u ++ 123 :: v)[u.length]? = some 123 := by simp
              rw [e, ← hua, h2] at h1
              injection h1 with h1
              exact absurd h1.symm h123
    | none =>
      cases hl : lastIx 123 m with
      | none => rfl
      | some i =>
        obtain ⟨u, v, rfl, hu, hv⟩ := lastIx_split hl
        show numB ((u ++ 123 :: v).drop (i + 1)) = none
        rw [← hu, ← List.drop_drop, List.drop_left]
        show numB v = none
        cases hn : numB v with
        | none => rfl
        | some k =>
          have hvd := (numB_digits hn).1
          rw [digStart_mk hvd u 123 (by decide), ← List.drop_drop, List.drop_left] at hx
          exact absurd (show numB v = none from hx) (by rw [hn]; simp)
  · rfl
end Go.Proofs.YthoccgkkgnlbpaaDoor
