/- Plain laws on reading a literal form. -/
import Derived.Test.YthoccgkkgnlbpaaDoorScanSpec
namespace Go.Proofs.YthoccgkkgnlbpaaDoor
open Go.Lib

theorem scanL_no (l : List UInt8) (a : Int) (h : a < 0 ∨ (l.length : Int) ≤ a) : scanL l a = none := by
  unfold scanL; rw [if_neg (by omega)]
theorem scanL_bad (l : List UInt8) (k : Nat) (hk : k < l.length) (h : l[k] ≠ 123) : scanL l k = none := by
  unfold scanL
  rw [if_neg]
  rintro ⟨_, _, e⟩
  rw [Int.toNat_natCast, List.getElem?_eq_getElem hk] at e
  exact h (by injection e)
theorem scanL_at (l : List UInt8) (k : Nat) (hk : k < l.length) (h : l[k] = 123) : scanL l k = (match firstIx 125 (l.drop (k + 1)) with
      | none => none
      | some i =>
        match numB ((l.drop (k + 1)).take i) with
        | none => none
        | some n =>
          if n ≤ 65536 ∧ l[k + 1 + i + 1]? = some 13 ∧ l[k + 1 + i + 2]? = some 10 ∧ k + 1 + i + 3 + n ≤ l.length then
            some ((l.drop (k + 1 + i + 3)).take n, k + 1 + i + 3 + n)
          else none) := by
  unfold scanL
  rw [if_pos ⟨by omega, by omega, by rw [Int.toNat_natCast, List.getElem?_eq_getElem hk, h]⟩, Int.toNat_natCast]
  rfl
/-- No mark at offsets k + 1 up to i. -/
abbrev NoMark (l : List UInt8) (k i : Nat) : Prop := ∀ j (hj : j < l.length), k < j → j < i → l[j] ≠ 125
theorem NoMark.next {l : List UInt8} {k i : Nat} (h : NoMark l k i) (hi : i < l.length) (e : l[i] ≠ 125) : NoMark l k (i + 1) := fun j hj h1 h2 => by
  rcases Nat.lt_or_ge j i with h3 | h3
  · exact h j hj h1 h3
  · obtain rfl : j = i := by omega
    exact e
theorem NoMark.first {l : List UInt8} {k i : Nat} (h : NoMark l k (k + 1 + i)) (hi : k + 1 + i < l.length) (e : l[k + 1 + i] = 125) : firstIx 125 (l.drop (k + 1)) = some i := by
  have e1 : l.drop (k + 1) = (l.drop (k + 1)).take i ++ 125 :: (l.drop (k + 1 + i + 1)) := by
    conv => lhs; rw [← List.take_append_drop i (l.drop (k + 1))]
    rw [List.drop_drop, List.drop_eq_getElem_cons hi, e]
  rw [e1, firstIx_mk, List.length_take, List.length_drop, Nat.min_eq_left (by omega)]
  intro hm
  obtain ⟨j, hj, e2⟩ := List.getElem_of_mem hm
  rw [List.getElem_take, List.getElem_drop] at e2
  rw [List.length_take, List.length_drop] at hj
  exact h (k + 1 + j) (by omega) (by omega) (by omega) e2
theorem NoMark.whole {l : List UInt8} {k : Nat} (h : NoMark l k l.length) : firstIx 125 (l.drop (k + 1)) = none := by
  cases hf : firstIx 125 (l.drop (k + 1)) with
  | none => rfl
  | some i =>
    obtain ⟨a, b, e, ha, _⟩ := firstIx_some hf
    have hl : (l.drop (k + 1)).length = a.length + 1 + b.length := by rw [e]; simp; omega
    rw [List.length_drop] at hl
    have : l[k + 1 + a.length]'(by omega) = 125 := by
      have h1 : (l.drop (k + 1))[a.length]? = some 125 := by rw [e]; simp
      rw [List.getElem?_drop] at h1
      exact (List.getElem?_eq_some_iff.1 h1).2
    exact absurd this (h _ (by omega) (by omega) (by omega))
theorem numB_far {l : List UInt8} (h : 10 < l.length) : numB l = none := by unfold numB; rw [if_pos h]
theorem NoMark.far {l : List UInt8} {k : Nat} (h : NoMark l k (k + 14)) (hk : k < l.length) (e : l[k] = 123) : scanL l k = Option.none := by
  rw [scanL_at l k hk e]
  cases hf : firstIx 125 (l.drop (k + 1)) with
  | none => rfl
  | some i =>
    obtain ⟨a, b, e1, ha, _⟩ := firstIx_some hf
    have hl : (l.drop (k + 1)).length = a.length + 1 + b.length := by rw [e1]; simp; omega
    rw [List.length_drop] at hl
    have : l[k + 1 + a.length]'(by omega) = 125 := by
      have h1 : (l.drop (k + 1))[a.length]? = some 125 := by rw [e1]; simp
      rw [List.getElem?_drop] at h1
      exact (List.getElem?_eq_some_iff.1 h1).2
    have hi : 13 ≤ i := by
      rcases Nat.lt_or_ge i 13 with h3 | h3
      · exact absurd this (h _ (by omega) (by omega) (by omega))
      · exact h3
    simp only [numB_far (l := (l.drop (k + 1)).take i) (by rw [List.length_take, List.length_drop]; omega)]
theorem scanL_nomark {l : List UInt8} {k : Nat} (hk : k < l.length) (e : l[k] = 123) (h : firstIx 125 (l.drop (k + 1)) = none) : scanL l k = none := by
  rw [scanL_at l k hk e, h]
theorem scanL_nonum {l : List UInt8} {k i : Nat} (hk : k < l.length) (e : l[k] = 123) (h : firstIx 125 (l.drop (k + 1)) = some i) (hn : numB ((l.drop (k + 1)).take i) = none) : scanL l k = none := by
  rw [scanL_at l k hk e, h]; simp only [hn]
theorem scanL_num {l : List UInt8} {k i n : Nat} (hk : k < l.length) (e : l[k] = 123) (h : firstIx 125 (l.drop (k + 1)) = some i) (hn : numB ((l.drop (k + 1)).take i) = some n) :
    scanL l k = if n ≤ 65536 ∧ l[k + 1 + i + 1]? = some 13 ∧ l[k + 1 + i + 2]? = some 10 ∧ k + 1 + i + 3 + n ≤ l.length then some ((l.drop (k + 1 + i + 3)).take n, k + 1 + i + 3 + n) else none := by
  rw [scanL_at l k hk e, h]; simp only [hn]
end Go.Proofs.YthoccgkkgnlbpaaDoor
