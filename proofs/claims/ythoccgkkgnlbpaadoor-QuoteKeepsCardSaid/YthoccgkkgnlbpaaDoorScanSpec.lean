/- Plain laws on reading the forms of strings: what a quoted and a literal form at an offset come to. -/
import Derived.Test.YthoccgkkgnlbpaaDoorQuoteSpec
namespace Go.Proofs.YthoccgkkgnlbpaaDoor
open Go.Lib

def consQ (c : UInt8) (k : Nat) (o : Option (List UInt8 × Nat)) : Option (List UInt8 × Nat) := o.map fun x => (c :: x.1, x.2 + k)
/-- Behind the first mark: the bytes, and how many were read. -/
def sq : List UInt8 → Option (List UInt8 × Nat)
  | [] => none
  | c :: r =>
    if c = 34 then some ([], 1)
    else if c = 92 then (match r with
      | [] => none
      | d :: r' => if d = 34 ∨ d = 92 then consQ d 2 (sq r') else none)
    else if textB c.toNat then consQ c 1 (sq r) else none
/-- ScanQuoted: the bytes, and the offset behind the form. -/
def scanQ (l : List UInt8) (at0 : Int) : Option (List UInt8 × Nat) :=
  if 0 ≤ at0 ∧ at0 < l.length ∧ l[at0.toNat]? = some 34 then (sq (l.drop (at0.toNat + 1))).map fun x => (x.1, at0.toNat + 1 + x.2) else none

/-- Where the first byte c is. -/
def firstIx (c : UInt8) : List UInt8 → Option Nat
  | [] => none
  | x :: l => if x = c then some 0 else (firstIx c l).map (· + 1)
theorem firstIx_some {c : UInt8} : ∀ {l : List UInt8} {i : Nat}, firstIx c l = some i → ∃ a b, l = a ++ c :: b ∧ a.length = i ∧ c ∉ a
  | [], _, h => by cases h
  | x :: l, i, h => by
    unfold firstIx at h
    by_cases hx : x = c
    · rw [if_pos hx] at h
      injection h with h
      exact ⟨[], l, by rw [hx]; rfl, by rw [← h]; rfl, by simp⟩
    · rw [if_neg hx] at h
      cases hl : firstIx c l with
      | none => rw [hl] at h; cases h
      | some j =>
        rw [hl] at h
        injection h with h
        obtain ⟨a, b, rfl, ha, hb⟩ := firstIx_some hl
        refine ⟨x :: a, b, rfl, by rw [List.length_cons, ha]; exact h, ?_⟩
        intro hm
        rcases List.mem_cons.1 hm with e | e
        · exact hx e.symm
        · exact hb e
theorem firstIx_none {c : UInt8} : ∀ {l : List UInt8}, firstIx c l = none → c ∉ l
  | [], _ => by simp
  | x :: l, h => by
    unfold firstIx at h
    by_cases hx : x = c
    · rw [if_pos hx] at h; cases h
    · rw [if_neg hx] at h
      cases hl : firstIx c l with
      | some j => rw [hl] at h; cases h
      | none =>
        have h1 := firstIx_none hl
        intro hm
        rcases List.mem_cons.1 hm with e | e
        · exact hx e.symm
        · exact h1 e
theorem firstIx_mk {c : UInt8} {b : List UInt8} : ∀ {a : List UInt8}, c ∉ a → firstIx c (a ++ c :: b) = some a.length
  | [], _ => by show firstIx c (c :: b) = some 0; unfold firstIx; rw [if_pos rfl]
  | x :: a, h => by
    show firstIx c (x :: (a ++ c :: b)) = _
    unfold firstIx
    rw [if_neg (fun e => h (by rw [e]; simp)), firstIx_mk (fun hm => h (List.mem_cons_of_mem _ hm))]
    rfl

/-- ScanLiteral: the bytes, and the offset behind the form. -/
def scanL (l : List UInt8) (at0 : Int) : Option (List UInt8 × Nat) :=
  if 0 ≤ at0 ∧ at0 < l.length ∧ l[at0.toNat]? = some 123 then
    (match firstIx 125 (l.drop (at0.toNat + 1)) with
      | none => none
      | some i =>
        match numB ((l.drop (at0.toNat + 1)).take i) with
        | none => none
        | some n =>
          if n ≤ 65536 ∧ l[at0.toNat + 1 + i + 1]? = some 13 ∧ l[at0.toNat + 1 + i + 2]? = some 10 ∧ at0.toNat + 1 + i + 3 + n ≤ l.length then
            some ((l.drop (at0.toNat + 1 + i + 3)).take n, at0.toNat + 1 + i + 3 + n)
          else none)
  else none
end Go.Proofs.YthoccgkkgnlbpaaDoor
