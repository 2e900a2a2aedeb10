/- The walks of the reference of package char: Number. · Plain laws on decimal forms: the number that a string denotes, by the reference's way and by strconv's. · Plain laws on the forms of strings: what the program's and the reference's ways of finding an announced length give is one. · Plain laws on reading the forms of strings: what a quoted and a literal form at an offset come to. -/
import Derived.Test.YtgdhakkfddmkjaaDoorJ0
import Derived.Lib.ParseIntBCases
set_option linter.unusedVariables false
set_option linter.unusedSimpArgs false
namespace Go.Proofs.YtgdhakkfddmkjaaDoor
open Go.RowKit

def digitB (b : UInt8) : Bool := decide (48 ≤ b.toNat) && decide (b.toNat ≤ 57)
def valL (l : List UInt8) : Nat := l.foldl (fun a c => 10 * a + (c.toNat - 48)) 0
/-- The number whose decimal form the bytes are, if it is below 2 to the 32. -/
def numB (l : List UInt8) : Option Nat :=
  if 10 < l.length then none else if l.all digitB then (if 4294967295 < valL l ∨ Lib.decDigits (valL l) ≠ l then none else some (valL l)) else none

theorem valL_snoc (l : List UInt8) (c : UInt8) : valL (l ++ [c]) = 10 * valL l + (c.toNat - 48) := by simp [valL]
theorem snoc_ind {α : Type} {P : List α → Prop} (h0 : P []) (hs : ∀ l c, P l → P (l ++ [c])) (l : List α) : P l := by
  have h : ∀ r : List α, P r.reverse := fun r => by
    induction r with
    | nil => exact h0
    | cons c r ih => rw [List.reverse_cons]; exact hs _ _ ih
  simpa using h l.reverse
theorem valL_lt (l : List UInt8) (h : l.all digitB = true) : valL l < 10 ^ l.length := by
  revert h
  refine snoc_ind (P := fun l => l.all digitB = true → valL l < 10 ^ l.length) (fun _ => by decide) (fun l c ih h => ?_) l
  · rw [List.all_append, Bool.and_eq_true] at h
    have hc : digitB c = true := by simpa using h.2
    have := ih h.1
    simp only [digitB, Bool.and_eq_true, decide_eq_true_eq] at hc
    rw [valL_snoc, List.length_append, List.length_singleton, Nat.pow_succ]
    omega

theorem numB_long (l : List UInt8) (h : 10 < l.length) : numB l = none := by rw [numB, if_pos h]
theorem numB_bad (l : List UInt8) (h : l.all digitB = false) : numB l = none := by rw [numB]; split <;> simp [h]
theorem numB_ok (l : List UInt8) (h : ¬ 10 < l.length) (ha : l.all digitB = true) (v : Nat) (hv : valL l = v) : numB l = if 4294967295 < v ∨ Lib.decDigits v ≠ l then none else some v := by
  rw [numB, if_neg h, if_pos ha, hv]

theorem val_step (s : ByteArray) (k v : Nat) (hk : k < s.size) (hv : valL (s.data.toList.take k) = v) (ha : (s.data.toList.take k).all digitB = true) (h1 : 48 ≤ s[k].toNat) (h2 : s[k].toNat ≤ 57) :
    valL (s.data.toList.take (k + 1)) = 10 * v + (s[k].toNat - 48) ∧ (s.data.toList.take (k + 1)).all digitB = true := by
  have hl : k < s.data.toList.length := by simpa using hk
  refine ⟨?_, take_all_yes hl ha (by rw [byte_at s k hk]; simp [digitB, h1, h2])⟩
  rw [List.take_succ_eq_append_getElem hl, valL_snoc, hv, byte_at s k hk]

def numV (o : Option Nat) : Value := .tuple #[.int .u32 (o.getD 0 : Nat), .bool o.isSome]

end Go.Proofs.YtgdhakkfddmkjaaDoor
namespace Go.Proofs.YtgdhakkfddmkjaaDoor
open Go.Lib

theorem dig_nat (d : Nat) (h : d < 10) : (UInt8.ofNat (48 + d)).toNat = 48 + d := by
  rw [UInt8.toNat_ofNat']; omega
theorem decDigits_small (n : Nat) (h : n < 10) : decDigits n = [UInt8.ofNat (48 + n)] := by rw [decDigits, dif_pos h]
theorem decDigits_big (n : Nat) (h : ¬ n < 10) : decDigits n = decDigits (n / 10) ++ [UInt8.ofNat (48 + n % 10)] := by rw [decDigits, dif_neg h]

theorem parseM_append (M : Nat) (r : List UInt8) : ∀ (l : List UInt8) (a : Nat) (b : Nat), parseUintM M a l = .ok b → parseUintM M a (l ++ r) = parseUintM M b r := by
  intro l
  induction l with
  | nil => intro a b h; rw [parseUintM] at h; injection h with h; subst h; rfl
  | cons c l ih =>
    intro a b h
    rw [List.cons_append]
    rw [parseUintM] at h ⊢
    split at h
    · rename_i h1
      rw [if_pos h1]
      split at h
      · cases h
      · rename_i h2
        rw [if_neg h2]
        split at h
        · cases h
        · rename_i h3
          rw [if_neg h3]
          exact ih _ _ h
    · cases h

theorem parseM_dec (M : Nat) (hM : M ≤ 4294967295) (n : Nat) (hn : n ≤ M) : parseUintM M 0 (decDigits n) = .ok n := by
  induction n using Nat.strongRecOn with
  | _ n ih =>
    by_cases h : n < 10
    · rw [decDigits_small n h, parseUintM, dig_nat n h, if_pos ⟨by omega, by omega⟩, if_neg (by omega), if_neg (by omega), parseUintM]
      congr 1; omega
    · rw [decDigits_big n h, parseM_append M _ _ _ _ (ih (n / 10) (by omega) (by omega)), parseUintM, dig_nat _ (by omega), if_pos ⟨by omega, by omega⟩, if_neg (by omega), if_neg (by omega), parseUintM]
      congr 1; omega
theorem decDigits_ne (n : Nat) : decDigits n ≠ [] := by
  intro h
  have := congrArg List.length h
  rw [decDigits_length] at this
  have := nDigits_pos n
  simp at *
  omega
theorem parse_dec (n : Nat) (hn : n ≤ 4294967295) : parseUintB 32 (decDigits n) = .ok n := by
  rw [parseUintB, if_neg (decDigits_ne n)]
  exact parseM_dec _ (by decide) n (by simpa using hn)

theorem val_dec (n : Nat) : valL (decDigits n) = n ∧ (decDigits n).all digitB = true := by
  induction n using Nat.strongRecOn with
  | _ n ih =>
    by_cases h : n < 10
    · rw [decDigits_small n h]
      refine ⟨?_, ?_⟩
      · show 10 * 0 + ((UInt8.ofNat (48 + n)).toNat - 48) = n
        rw [dig_nat n h]; omega
      · rw [List.all_cons, List.all_nil, Bool.and_true]
        unfold digitB
        rw [dig_nat n h, decide_eq_true (by omega), decide_eq_true (by omega)]; rfl
    · rw [decDigits_big n h, valL_snoc, (ih (n / 10) (by omega)).1, dig_nat _ (by omega), List.all_append, (ih (n / 10) (by omega)).2]
      refine ⟨by omega, ?_⟩
      rw [List.all_cons, List.all_nil, Bool.and_true, Bool.true_and]
      unfold digitB
      rw [dig_nat _ (by omega), decide_eq_true (by omega), decide_eq_true (by omega)]; rfl
theorem decDigits_len (n : Nat) (hn : n ≤ 4294967295) : (decDigits n).length ≤ 10 := by
  rw [decDigits_length]
  rcases Nat.lt_or_ge n 1 with h | h
  · rw [nDigits_small (by omega)]; omega
  · have h1 : ∀ k u : Nat, u < 10 ^ (k + 1) → nDigits u ≤ k + 1 := by
      intro k
      induction k with
      | zero => intro u hu; rw [nDigits_small (by simpa using hu)]; omega
      | succ k ih =>
        intro u hu
        by_cases h10 : u < 10
        · rw [nDigits_small h10]; omega
        · rw [nDigits_big h10]
          have := ih (u / 10) (by rw [Nat.pow_succ] at hu; omega)
          omega
    exact h1 9 n (by omega)

/-- 'numB' says: the bytes are the decimal form of a number below 2 to the 32. -/
theorem numB_some {l : List UInt8} {n : Nat} (h : numB l = some n) : n ≤ 4294967295 ∧ l = decDigits n := by
  unfold numB at h
  split at h
  · cases h
  · split at h
    · split at h
      · cases h
      · rename_i h3
        injection h with h
        subst h
        have : ¬ decDigits (valL l) ≠ l := fun e => h3 (.inr e)
        exact ⟨by omega, (Decidable.not_not.1 this).symm⟩
    · cases h
theorem numB_dec (n : Nat) (hn : n ≤ 4294967295) : numB (decDigits n) = some n := by
  have hl := decDigits_len n hn
  unfold numB
  rw [if_neg (by omega), if_pos (val_dec n).2, (val_dec n).1, if_neg (by simp; omega)]
theorem numB_none_of_parse {l : List UInt8} (h : ∀ u, parseUintB 32 l ≠ .ok u) : numB l = none := by
  cases hx : numB l with
  | none => rfl
  | some n =>
    obtain ⟨h1, rfl⟩ := numB_some hx
    exact absurd (parse_dec n h1) (h n)
theorem numB_of_parse {l : List UInt8} {u : Nat} (h : parseUintB 32 l = .ok u) : numB l = if decDigits u = l then some u else none := by
  have hu := parseUintB_le h
  split
  · rename_i e; rw [← e]; exact numB_dec u (by simpa using hu)
  · rename_i e
    cases hx : numB l with
    | none => rfl
    | some n =>
      obtain ⟨h1, rfl⟩ := numB_some hx
      rw [parse_dec n h1] at h
      injection h with h
      exact absurd (by rw [h]) e
theorem numB_le {l : List UInt8} {n : Nat} (h : numB l = some n) : n < 4294967296 := by have := (numB_some h).1; omega
end Go.Proofs.YtgdhakkfddmkjaaDoor
namespace Go.Proofs.YtgdhakkfddmkjaaDoor
open Go.Lib

def qesc (c : UInt8) : List UInt8 := if c.toNat = 34 ∨ c.toNat = 92 then [92, c] else [c]
/-- The quoted form, if all bytes are text bytes. -/
def quoB (l : List UInt8) : Option (List UInt8) := if l.all (fun b => textB b.toNat) then some (34 :: (l.flatMap qesc ++ [34])) else none
/-- The head of the literal form of n bytes. -/
def litH (n : Nat) : List UInt8 := 123 :: (decDigits n ++ [125, 13, 10])
def litB (l : List UInt8) : List UInt8 := litH l.length ++ l
def bestB (l : List UInt8) : List UInt8 := (quoB l).getD (litB l)

/-- Where the last byte c is, from the end. -/
def lastIx (c : UInt8) : List UInt8 → Option Nat
  | [] => none
  | x :: l => match lastIx c l with
    | some i => some (i + 1)
    | none => if x = c then some 0 else none

/-- The program's way. -/
def annP (l : List UInt8) : Option Nat :=
  if l.getLast? = some 125 then (match lastIx 123 l.dropLast with | none => none | some i => numB (l.dropLast.drop (i + 1))) else none
/-- The reference's way: 'at' is where the digits at the end begin. -/
def digStart : List UInt8 → Nat
  | [] => 0
  | x :: l => if (x :: l).all digitB then 0 else digStart l + 1
def annR (l : List UInt8) : Option Nat :=
  if l.getLast? = some 125 then
    (match numB (l.dropLast.drop (digStart l.dropLast)) with
      | none => none
      | some x => if 0 < digStart l.dropLast ∧ l.dropLast[digStart l.dropLast - 1]? = some 123 then some x else none)
  else none

theorem lastIx_split {c : UInt8} : ∀ {l : List UInt8} {i : Nat}, lastIx c l = some i → ∃ a b, l = a ++ c :: b ∧ a.length = i ∧ c ∉ b
  | [], _, h => by cases h
  | x :: l, i, h => by
    unfold lastIx at h
    cases hl : lastIx c l with
    | some j =>
      rw [hl] at h
      injection h with h
      obtain ⟨a, b, rfl, ha, hb⟩ := lastIx_split hl
      exact ⟨x :: a, b, rfl, by rw [List.length_cons, ha, h], hb⟩
    | none =>
      rw [hl] at h
      by_cases hx : x = c
      · subst hx
        rw [if_pos rfl] at h
        injection h with h
        refine ⟨[], l, rfl, by rw [← h]; rfl, ?_⟩
        exact lastIx_none hl
      · rw [if_neg hx] at h; cases h
where
  lastIx_none {c : UInt8} : ∀ {l : List UInt8}, lastIx c l = none → c ∉ l
    | [], _ => by simp
    | x :: l, h => by
      unfold lastIx at h
      cases hl : lastIx c l with
      | some j => rw [hl] at h; cases h
      | none =>
        rw [hl] at h
        have h1 := lastIx_none hl
        by_cases hx : x = c
        · rw [if_pos hx] at h; cases h
        · intro hm
          rcases List.mem_cons.1 hm with e | e
          · exact hx e.symm
          · exact h1 e
theorem lastIx_none' {c : UInt8} {l : List UInt8} (h : lastIx c l = none) : c ∉ l := lastIx_split.lastIx_none h
theorem lastIx_mk {c : UInt8} {b : List UInt8} (hb : c ∉ b) : ∀ a : List UInt8, lastIx c (a ++ c :: b) = some a.length
  | [] => by
    have hn : lastIx c b = none := by
      cases h : lastIx c b with
      | none => rfl
      | some i => obtain ⟨x, y, rfl, _, _⟩ := lastIx_split h; exact absurd (by simp) hb
    show lastIx c (c :: b) = some 0
    unfold lastIx
    rw [hn, if_pos rfl]
  | x :: a => by
    show lastIx c (x :: (a ++ c :: b)) = _
    unfold lastIx
    rw [lastIx_mk hb a]
    rfl

theorem numB_digits {l : List UInt8} {n : Nat} (h : numB l = some n) : l.all digitB = true ∧ l ≠ [] := by
  obtain ⟨_, rfl⟩ := numB_some h
  exact ⟨(val_dec n).2, decDigits_ne n⟩

theorem digStart_split : ∀ l : List UInt8, ∃ a b, l = a ++ b ∧ a.length = digStart l ∧ b.all digitB = true ∧ (a = [] ∨ ∃ a' x, a = a' ++ [x] ∧ digitB x = false)
  | [] => ⟨[], [], rfl, rfl, rfl, .inl rfl⟩
  | x :: l => by
    unfold digStart
    by_cases h : (x :: l).all digitB = true
    · rw [if_pos h]; exact ⟨[], x :: l, rfl, rfl, h, .inl rfl⟩
    · rw [if_neg h]
      obtain ⟨a, b, e, ha, hb, hs⟩ := digStart_split l
      refine ⟨x :: a, b, by rw [List.cons_append, ← e], by rw [List.length_cons, ha], hb, .inr ?_⟩
      rcases hs with rfl | ⟨a', y, rfl, hy⟩
      · refine ⟨[], x, rfl, ?_⟩
        rw [List.nil_append] at e
        subst e
        rw [List.all_cons, hb, Bool.and_true] at h
        exact Bool.eq_false_iff.2 h
      · exact ⟨x :: a', y, rfl, hy⟩
theorem digStart_mk {b : List UInt8} (hb : b.all digitB = true) : ∀ (a : List UInt8) (x : UInt8), digitB x = false → digStart (a ++ x :: b) = a.length + 1
  | [], x, hx => by
    show digStart (x :: b) = 1
    unfold digStart
    rw [List.all_cons, hx, Bool.false_and, if_neg (by simp)]
    cases b with
    | nil => rfl
    | cons y b => unfold digStart; rw [if_pos hb]
  | z :: a, x, hx => by
    show digStart (z :: (a ++ x :: b)) = _
    unfold digStart
    rw [if_neg (by rw [List.all_cons, List.all_append, List.all_cons, hx]; simp), digStart_mk hb a x hx]
    rfl

theorem digit_ne123 {x : UInt8} (h : digitB x = true) : x ≠ 123 := by
  rintro rfl
  revert h
  decide

theorem ann_eq (l : List UInt8) : annP l = annR l := by
  unfold annP annR
  split
  · generalize l.dropLast = m
    cases hx : numB (m.drop (digStart m)) with
    | some n =>
      obtain ⟨hd, hne⟩ := numB_digits hx
      obtain ⟨a, b, rfl, ha, hb, hs⟩ := digStart_split m
      have hdrop : (a ++ b).drop (digStart (a ++ b)) = b := by rw [← ha, List.drop_left]
      rw [hdrop] at hx
      rcases hs with rfl | ⟨a', y, rfl, hy⟩
      · rw [List.nil_append] at ha ⊢
        have h0 : digStart b = 0 := ha.symm
        simp only [h0]
        rw [if_neg (by simp)]
        cases hl : lastIx 123 b with
        | none => rfl
        | some i =>
          obtain ⟨u, v, rfl, _, _⟩ := lastIx_split hl
          exact absurd rfl (digit_ne123 (List.all_eq_true.1 hb 123 (by simp)))
      · have hds : digStart (a' ++ [y] ++ b) = a'.length + 1 := by rw [List.append_assoc]; exact digStart_mk hb a' y hy
        simp only [hds]
        have hget : (a' ++ [y] ++ b)[a'.length + 1 - 1]? = some y := by simp
        rw [hget]
        by_cases h123 : y = 123
        · subst h123
          rw [if_pos ⟨by omega, rfl⟩, List.append_assoc, List.singleton_append, lastIx_mk (fun hm => digit_ne123 (List.all_eq_true.1 hb 123 hm) rfl) a']
          show numB ((a' ++ 123 :: b).drop (a'.length + 1)) = some n
          rw [← List.drop_drop, List.drop_left]
          exact hx
        · rw [if_neg (by rintro ⟨_, h⟩; injection h with h; exact h123 h)]
          cases hl : lastIx 123 (a' ++ [y] ++ b) with
          | none => rfl
          | some i =>
            obtain ⟨u, v, e, hu, hv⟩ := lastIx_split hl
            show numB ((a' ++ [y] ++ b).drop (i + 1)) = none
            rw [e, ← hu, ← List.drop_drop, List.drop_left]
            show numB v = none
            cases hn : numB v with
            | none => rfl
            | some k =>
              have hvd := (numB_digits hn).1
              have := digStart_mk hvd u 123 (by decide)
              rw [← e, hds] at this
              have hua : u.length = a'.length := by omega
              have h1 : (a' ++ [y] ++ b)[a'.length]? = some y := by simp
              have h2 : (u ++ 123 :: v)[u.length]? = some 123 := by simp
              rw [e, ← hua, h2] at h1
              injection h1 with h1
              exact absurd h1.symm h123
    | none =>
      cases hl : lastIx 123 m with
      | none => rfl
      | some i =>
        obtain ⟨u, v, rfl, hu, hv⟩ := lastIx_split hl
        show numB ((u ++ 123 :: v).drop (i + 1)) = none
        rw [← hu, ← List.drop_drop, List.drop_left]
        show numB v = none
        cases hn : numB v with
        | none => rfl
        | some k =>
          have hvd := (numB_digits hn).1
          rw [digStart_mk hvd u 123 (by decide), ← List.drop_drop, List.drop_left] at hx
          exact absurd (show numB v = none from hx) (by rw [hn]; simp)
  · rfl
end Go.Proofs.YtgdhakkfddmkjaaDoor
namespace Go.Proofs.YtgdhakkfddmkjaaDoor
open Go.Lib

def consQ (c : UInt8) (k : Nat) (o : Option (List UInt8 × Nat)) : Option (List UInt8 × Nat) := o.map fun x => (c :: x.1, x.2 + k)
/-- Behind the first mark: the bytes, and how many were read. -/
def sq : List UInt8 → Option (List UInt8 × Nat)
  | [] => none
  | c :: r =>
    if c = 34 then some ([], 1)
    else if c = 92 then (match r with
      | [] => none
      | d :: r' => if d = 34 ∨ d = 92 then consQ d 2 (sq r') else none)
    else if textB c.toNat then consQ c 1 (sq r) else none
/-- ScanQuoted: the bytes, and the offset behind the form. -/
def scanQ (l : List UInt8) (at0 : Int) : Option (List UInt8 × Nat) :=
  if 0 ≤ at0 ∧ at0 < l.length ∧ l[at0.toNat]? = some 34 then (sq (l.drop (at0.toNat + 1))).map fun x => (x.1, at0.toNat + 1 + x.2) else none

/-- Where the first byte c is. -/
def firstIx (c : UInt8) : List UInt8 → Option Nat
  | [] => none
  | x :: l => if x = c then some 0 else (firstIx c l).map (· + 1)
theorem firstIx_some {c : UInt8} : ∀ {l : List UInt8} {i : Nat}, firstIx c l = some i → ∃ a b, l = a ++ c :: b ∧ a.length = i ∧ c ∉ a
  | [], _, h => by cases h
  | x :: l, i, h => by
    unfold firstIx at h
    by_cases hx : x = c
    · rw [if_pos hx] at h
      injection h with h
      exact ⟨[], l, by rw [hx]; rfl, by rw [← h]; rfl, by simp⟩
    · rw [if_neg hx] at h
      cases hl : firstIx c l with
      | none => rw [hl] at h; cases h
      | some j =>
        rw [hl] at h
        injection h with h
        obtain ⟨a, b, rfl, ha, hb⟩ := firstIx_some hl
        refine ⟨x :: a, b, rfl, by rw [List.length_cons, ha]; exact h, ?_⟩
        intro hm
        rcases List.mem_cons.1 hm with e | e
        · exact hx e.symm
        · exact hb e
theorem firstIx_none {c : UInt8} : ∀ {l : List UInt8}, firstIx c l = none → c ∉ l
  | [], _ => by simp
  | x :: l, h => by
    unfold firstIx at h
    by_cases hx : x = c
    · rw [if_pos hx] at h; cases h
    · rw [if_neg hx] at h
      cases hl : firstIx c l with
      | some j => rw [hl] at h; cases h
      | none =>
        have h1 := firstIx_none hl
        intro hm
        rcases List.mem_cons.1 hm with e | e
        · exact hx e.symm
        · exact h1 e
theorem firstIx_mk {c : UInt8} {b : List UInt8} : ∀ {a : List UInt8}, c ∉ a → firstIx c (a ++ c :: b) = some a.length
  | [], _ => by show firstIx c (c :: b) = some 0; unfold firstIx; rw [if_pos rfl]
  | x :: a, h => by
    show firstIx c (x :: (a ++ c :: b)) = _
    unfold firstIx
    rw [if_neg (fun e => h (by rw [e]; simp)), firstIx_mk (fun hm => h (List.mem_cons_of_mem _ hm))]
    rfl

/-- ScanLiteral: the bytes, and the offset behind the form. -/
def scanL (l : List UInt8) (at0 : Int) : Option (List UInt8 × Nat) :=
  if 0 ≤ at0 ∧ at0 < l.length ∧ l[at0.toNat]? = some 123 then
    (match firstIx 125 (l.drop (at0.toNat + 1)) with
      | none => none
      | some i =>
        match numB ((l.drop (at0.toNat + 1)).take i) with
        | none => none
        | some n =>
          if n ≤ 65536 ∧ l[at0.toNat + 1 + i + 1]? = some 13 ∧ l[at0.toNat + 1 + i + 2]? = some 10 ∧ at0.toNat + 1 + i + 3 + n ≤ l.length then
            some ((l.drop (at0.toNat + 1 + i + 3)).take n, at0.toNat + 1 + i + 3 + n)
          else none)
  else none
end Go.Proofs.YtgdhakkfddmkjaaDoor
