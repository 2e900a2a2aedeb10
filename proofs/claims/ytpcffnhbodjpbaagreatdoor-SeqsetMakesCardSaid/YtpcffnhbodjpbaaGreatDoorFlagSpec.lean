/- Plain laws on flags: their names, the sets, what a list denotes. -/
import Derived.Test.YtpcffnhbodjpbaaGreatDoorF
import Derived.Lib.SplitLaws
set_option linter.unusedVariables false
set_option linter.unusedSimpArgs false
namespace Go.Proofs.YtpcffnhbodjpbaaGreatDoor
open Go.Lib Go.RowKit

/-- The pieces of a list of bytes between a byte. -/
def splitOn (c : UInt8) : List UInt8 → List (List UInt8)
  | [] => [[]]
  | x :: l => if x = c then [] :: splitOn c l else match splitOn c l with
    | [] => [[x]]
    | h :: t => (x :: h) :: t
theorem splitOn_ne (c : UInt8) (l : List UInt8) : splitOn c l ≠ [] := by
  cases l with
  | nil => simp [splitOn]
  | cons x l =>
    unfold splitOn
    split
    · simp
    · split <;> simp
theorem splitOn_last {c : UInt8} : ∀ {a : List UInt8}, c ∉ a → splitOn c a = [a]
  | [], _ => rfl
  | x :: a, h => by
    have hx : ¬ x = c := fun e => h (by rw [e]; simp)
    unfold splitOn
    rw [if_neg hx, splitOn_last (fun hm => h (List.mem_cons_of_mem _ hm))]
theorem splitOn_hit {c : UInt8} {b : List UInt8} : ∀ {a : List UInt8}, c ∉ a → splitOn c (a ++ c :: b) = a :: splitOn c b
  | [], _ => by show splitOn c (c :: b) = _; rw [splitOn, if_pos rfl]
  | x :: a, h => by
    have hx : ¬ x = c := fun e => h (by rw [e]; simp)
    show splitOn c (x :: (a ++ c :: b)) = _
    rw [splitOn, if_neg hx, splitOn_hit (fun hm => h (List.mem_cons_of_mem _ hm))]
theorem split_first (c : UInt8) : ∀ l : List UInt8, c ∉ l ∨ ∃ a b, l = a ++ c :: b ∧ c ∉ a
  | [] => .inl (by simp)
  | x :: l => by
    by_cases hx : x = c
    · exact .inr ⟨[], l, by rw [hx]; rfl, by simp⟩
    · rcases split_first c l with h | ⟨a, b, rfl, ha⟩
      · exact .inl (by simp only [List.mem_cons, not_or]; exact ⟨fun e => hx e.symm, h⟩)
      · exact .inr ⟨x :: a, b, rfl, by simp only [List.mem_cons, not_or]; exact ⟨fun e => hx e.symm, ha⟩⟩
theorem index_miss {c : UInt8} : ∀ {l : List UInt8}, c ∉ l → index l [c] = -1
  | [], _ => by simp [index]
  | x :: l, h => by
    have hx : ¬ c = x := fun e => h (by rw [e]; simp)
    rw [index, index_miss (fun hm => h (List.mem_cons_of_mem _ hm))]
    simp [List.isPrefixOf, hx]
theorem index_at {c : UInt8} {b : List UInt8} : ∀ {a : List UInt8}, c ∉ a → index (a ++ c :: b) [c] = (a.length : Int)
  | [], _ => by show index (c :: b) [c] = _; rw [index]; simp [List.isPrefixOf]
  | x :: a, h => by
    have hx : ¬ c = x := fun e => h (by rw [e]; simp)
    show index (x :: (a ++ c :: b)) [c] = _
    rw [index, index_at (fun hm => h (List.mem_cons_of_mem _ hm))]
    have : ((a.length : Int) == -1) = false := by rw [beq_eq_false_iff_ne]; omega
    simp [List.isPrefixOf, hx, this]
theorem count_zero_of {c : UInt8} {l : List UInt8} (h : c ∉ l) : count l [c] = 0 := by rw [count_one, List.count_eq_zero]; exact h
theorem splitK_one (c : UInt8) : ∀ (k : Nat) (l : List UInt8), count l [c] = k → splitK [c] 0 k l = splitOn c l
  | 0, l, h => by
    rw [count_one, List.count_eq_zero] at h
    rw [splitOn_last h]; rfl
  | k + 1, l, h => by
    rcases split_first c l with hc | ⟨a, b, rfl, ha⟩
    · rw [count_zero_of hc] at h; omega
    · rw [splitOn_hit ha]
      have hb : count b [c] = k := by
        rw [count_one] at h ⊢
        rw [List.count_append, List.count_cons_self, List.count_eq_zero.2 ha] at h
        omega
      have hix := index_at (b := b) ha
      unfold splitK
      have hm : ((a.length : Int) == -1) = false := by rw [beq_eq_false_iff_ne]; omega
      rw [hix, hm]
      simp only [Bool.false_eq_true, if_false, Int.toNat_natCast, Nat.add_zero, List.length_cons, List.length_nil, Nat.zero_add]
      rw [List.take_left' rfl, show a ++ c :: b = (a ++ [c]) ++ b by simp, List.drop_left' (by simp), splitK_one c k b hb]
/-- strings.Split at one byte, in this text's words. -/
theorem splitB_one (c : UInt8) (s : ByteArray) : splitB ⟨#[c]⟩ 0 (countB s ⟨#[c]⟩) s = (splitOn c s.data.toList).map ofL := by
  have h1 : (splitB ⟨#[c]⟩ 0 (countB s ⟨#[c]⟩) s).map (·.data.toList) = splitOn c s.data.toList := by
    rw [splitB_data]; exact splitK_one c _ _ rfl
  rw [← h1, List.map_map]
  conv => lhs; rw [← List.map_id (splitB _ _ _ _)]
  exact List.map_congr_left fun x _ => (ofL_self x).symm
theorem splitOn_count (c : UInt8) (s : ByteArray) : countB s ⟨#[c]⟩ + 1 = (splitOn c s.data.toList).length := by
  rw [← splitB_all ⟨#[c]⟩ (by show 1 ≤ (1 : Nat); omega) 0 _ s rfl, splitB_one, List.length_map]

/-! ### the flags -/
def fnames : List (List UInt8) := [[92, 65, 110, 115, 119, 101, 114, 101, 100], [92, 70, 108, 97, 103, 103, 101, 100], [92, 68, 101, 108, 101, 116, 101, 100], [92, 83, 101, 101, 110], [92, 68, 114, 97, 102, 116]]
def fname (f : Nat) : List UInt8 := if f = 1 then fnames[0]! else if f = 2 then fnames[1]! else if f = 4 then fnames[2]! else if f = 8 then fnames[3]! else if f = 16 then fnames[4]! else []
/-- The single flags of a set, of the first k. -/
def eachTo (f k : Nat) : List Nat := ((List.range k).map fun i => f &&& 2 ^ i).filter fun x => !(x == 0)
def eachL (f : Nat) : List Nat := eachTo f 5
theorem eachTo_next (f k : Nat) : eachTo f (k + 1) = if f &&& 2 ^ k = 0 then eachTo f k else eachTo f k ++ [f &&& 2 ^ k] := by
  unfold eachTo
  rw [List.range_succ, List.map_append, List.filter_append]
  by_cases h : f &&& 2 ^ k = 0
  · rw [if_pos h]; simp [h]
  · rw [if_neg h]; simp [h]
theorem eachTo_le (f k : Nat) : (eachTo f k).length ≤ k := by
  have := List.length_filter_le (fun x => !(x == 0)) ((List.range k).map fun i => f &&& 2 ^ i)
  rw [List.length_map, List.length_range] at this
  exact this
theorem and_bits (f k : Nat) (hf : f < 256) (hk : k < 5) : bits .and .u8 (f : Int) (2 ^ k % 256 : Int) = ((f &&& 2 ^ k : Nat) : Int) := by
  have h : ∀ f : Fin 256, ∀ k : Fin 5, bits .and .u8 (f.val : Int) (2 ^ k.val % 256 : Int) = ((f.val &&& 2 ^ k.val : Nat) : Int) := by decide +kernel
  exact h ⟨f, hf⟩ ⟨k, hk⟩
theorem shl_bits (k : Nat) (hk : k < 5) : IntKind.u8.wrap (2 ^ k) = ((2 ^ k : Nat) : Int) := by
  have h : ∀ k : Fin 5, IntKind.u8.wrap (2 ^ k.val) = ((2 ^ k.val : Nat) : Int) := by decide +kernel
  exact h ⟨k, hk⟩
theorem or_bits (a b : Nat) (ha : a < 32) (hb : b < 32) : bits .or .u8 (a : Int) (b : Int) = ((a ||| b : Nat) : Int) ∧ bits .or .i64 (a : Int) (b : Int) = ((a ||| b : Nat) : Int) ∧ a ||| b < 32 := by
  have h : ∀ a b : Fin 32, bits .or .u8 (a.val : Int) (b.val : Int) = ((a.val ||| b.val : Nat) : Int) ∧ bits .or .i64 (a.val : Int) (b.val : Int) = ((a.val ||| b.val : Nat) : Int) ∧ a.val ||| b.val < 32 := by decide +kernel
  exact h ⟨a, ha⟩ ⟨b, hb⟩

/-- The flag with a name, in whatever case. -/
def flagTab : List (List UInt8 × Nat) := [(fnames[0]!.map upB, 1), (fnames[1]!.map upB, 2), (fnames[2]!.map upB, 4), (fnames[3]!.map upB, 8), (fnames[4]!.map upB, 16)]
def flagUp (u : List UInt8) : Option Nat := (flagTab.find? fun p => decide (u = p.1)).map (·.2)
def flagVal (wd : List UInt8) : Option Nat := flagUp (wd.map upB)
theorem flagVal_lt {wd : List UInt8} {v : Nat} (h : flagVal wd = some v) : v < 32 ∧ v ≠ 0 := by
  unfold flagVal flagUp at h
  rw [Option.map_eq_some_iff] at h
  obtain ⟨p, hp, rfl⟩ := h
  have hm := List.mem_of_find?_eq_some hp
  have : ∀ p ∈ flagTab, p.2 < 32 ∧ p.2 ≠ 0 := by decide +kernel
  exact this p hm
def foldF : List (List UInt8) → Nat → Option Nat
  | [], a => some a
  | w :: r, a => match flagVal w with
    | none => none
    | some v => foldF r (a ||| v)
/-- Parse. -/
def parseF (s : List UInt8) : Option Nat :=
  if s.head? = some 40 ∧ s.tail.getLast? = some 41 then
    (if s.tail.dropLast = [] then some 0 else foldF (splitOn 32 s.tail.dropLast) 0)
  else none
theorem foldF_lt : ∀ {L : List (List UInt8)} {a v : Nat}, a < 32 → foldF L a = some v → v < 32
  | [], a, v, ha, h => by injection h with h; omega
  | w :: r, a, v, ha, h => by
    unfold foldF at h
    cases hf : flagVal w with
    | none => rw [hf] at h; cases h
    | some x => rw [hf] at h; exact foldF_lt (or_bits a x ha (flagVal_lt hf).1).2.2 h
theorem parseF_lt {s : List UInt8} {v : Nat} (h : parseF s = some v) : v < 32 := by
  unfold parseF at h
  split at h
  · split at h
    · injection h with h; omega
    · exact foldF_lt (by omega) h
  · cases h
def joinF : List (List UInt8) → List UInt8
  | [] => []
  | [a] => a
  | a :: b :: r => a ++ 32 :: joinF (b :: r)
/-- List. -/
def listF (f : Nat) : List UInt8 := 40 :: (joinF ((eachL f).map fname) ++ [41])
theorem parse_list (f : Nat) (hf : f < 256) : parseF (listF f) = some (f % 32) := by
  have h : ∀ f : Fin 256, parseF (listF f.val) = some (f.val % 32) := by decide +kernel
  exact h ⟨f, hf⟩
end Go.Proofs.YtpcffnhbodjpbaaGreatDoor
