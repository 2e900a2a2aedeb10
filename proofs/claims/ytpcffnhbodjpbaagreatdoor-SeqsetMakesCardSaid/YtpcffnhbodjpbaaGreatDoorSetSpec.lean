/- Plain laws on sequence sets: ranges, their merge, their numbers; the sorted list of numbers, its ranges. -/
import Derived.Test.YtpcffnhbodjpbaaGreatDoorBase
set_option linter.unusedVariables false
set_option linter.unusedSimpArgs false
namespace Go.Proofs.YtpcffnhbodjpbaaGreatDoor

structure Rng where
  lo : Nat
  hi : Nat
def realN (top n : Nat) : Nat := if n = 0 then top else n
/-- A range without stars, the smaller number first. -/
def plainR (top : Nat) (r : Rng) : Rng := ⟨min (realN top r.lo) (realN top r.hi), max (realN top r.lo) (realN top r.hi)⟩
def validB (top : Nat) (l : List Rng) : Bool := decide (0 < top) && !l.isEmpty && l.all fun r => decide (r.lo ≤ top) && decide (r.hi ≤ top)
def inR (n : Nat) (r : Rng) : Bool := decide (r.lo ≤ n) && decide (n ≤ r.hi)
def anyR (n : Nat) (p : List Rng) : Bool := p.any (inR n)
/-- The numbers from a to b. -/
def nums (a b : Nat) : List Nat := List.range' a (b + 1 - a)
theorem nums_mem {a b n : Nat} : n ∈ nums a b ↔ a ≤ n ∧ n ≤ b := by
  unfold nums
  rw [List.mem_range'_1]
  omega
theorem nums_none {a b : Nat} (h : b < a) : nums a b = [] := by
  unfold nums
  rw [show b + 1 - a = 0 by omega]; rfl
theorem nums_cut {a b c : Nat} (h1 : a ≤ b + 1) (h2 : b ≤ c) : nums a c = nums a b ++ nums (b + 1) c := by
  unfold nums
  rw [show c + 1 - a = (b + 1 - a) + (c + 1 - (b + 1)) by omega, ← List.range'_append_1]
  congr 2
  omega
theorem nums_len (a b : Nat) : (nums a b).length = b + 1 - a := by unfold nums; rw [List.length_range']
/-- The ranges of a sorted list, from a number on, without common numbers. -/
def mrg (M : Nat) : Nat → List Rng → List Rng
  | _, [] => []
  | next, r :: p => if r.hi < max r.lo next then mrg M next p else ⟨max r.lo next, r.hi⟩ :: (if r.hi = M then [] else mrg M (r.hi + 1) p)
def sortedR (p : List Rng) : Prop := p.Pairwise fun a b => a.lo ≤ b.lo
theorem filter_none {p : List Rng} {a b : Nat} (h : ∀ n, a ≤ n → n ≤ b → anyR n p = false) : (nums a b).filter (fun n => anyR n p) = [] := by
  rw [List.filter_eq_nil_iff]
  intro n hn
  obtain ⟨h1, h2⟩ := nums_mem.1 hn
  rw [h n h1 h2]; simp
theorem filter_full {p : List Rng} {a b : Nat} (h : ∀ n, a ≤ n → n ≤ b → anyR n p = true) : (nums a b).filter (fun n => anyR n p) = nums a b := by
  rw [List.filter_eq_self]
  intro n hn
  obtain ⟨h1, h2⟩ := nums_mem.1 hn
  exact h n h1 h2
theorem filter_same {p q : List Rng} {a b : Nat} (h : ∀ n, a ≤ n → n ≤ b → anyR n p = anyR n q) : (nums a b).filter (fun n => anyR n p) = (nums a b).filter (fun n => anyR n q) := by
  apply List.filter_congr
  intro n hn
  obtain ⟨h1, h2⟩ := nums_mem.1 hn
  exact h n h1 h2
/-- The merge yields each number that is in a range, in order, once. -/
theorem mrg_nums {M : Nat} : ∀ (p : List Rng) (next top : Nat), sortedR p → (∀ r ∈ p, r.lo ≤ r.hi ∧ r.hi ≤ top) → top ≤ M → (mrg M next p).flatMap (fun r => nums r.lo r.hi) = (nums next top).filter (fun n => anyR n p)
  | [], next, top, _, _, _ => by rw [filter_none (fun n _ _ => rfl)]; rfl
  | r :: p, next, top, hs, hr, hM => by
    obtain ⟨h1, h2⟩ := hr r (by simp)
    have hp := hr
    have hsp : sortedR p := (List.pairwise_cons.1 hs).2
    have hlo := (List.pairwise_cons.1 hs).1
    have hr' : ∀ x ∈ p, x.lo ≤ x.hi ∧ x.hi ≤ top := fun x hx => hr x (List.mem_cons_of_mem _ hx)
    unfold mrg
    by_cases h : r.hi < max r.lo next
    · rw [if_pos h, mrg_nums p next top hsp hr' hM]
      refine filter_same fun n hn _ => ?_
      have : inR n r = false := by
        unfold inR
        rw [Bool.and_eq_false_iff]
        right
        exact decide_eq_false (by omega)
      unfold anyR
      rw [List.any_cons, this, Bool.false_or]
    · rw [if_neg h]
      have hA : ∀ n, next ≤ n → n < max r.lo next → anyR n (r :: p) = false := fun n hn hlt => by
        unfold anyR
        rw [List.any_eq_false]
        intro x hx
        have hxl : r.lo ≤ x.lo := by
          rcases List.mem_cons.1 hx with rfl | hx
          · exact Nat.le_refl _
          · exact hlo x hx
        unfold inR
        rw [decide_eq_false (by omega : ¬ x.lo ≤ n)]
        simp
      have hB : ∀ n, max r.lo next ≤ n → n ≤ r.hi → anyR n (r :: p) = true := fun n hn hlt => by
        unfold anyR
        rw [List.any_cons]
        have : inR n r = true := by
          unfold inR
          rw [decide_eq_true (by omega : r.lo ≤ n), decide_eq_true hlt]; rfl
        rw [this]; rfl
      have hC : ∀ n, r.hi + 1 ≤ n → anyR n (r :: p) = anyR n p := fun n hn => by
        have : inR n r = false := by
          unfold inR
          rw [decide_eq_false (by omega : ¬ n ≤ r.hi)]; simp
        unfold anyR
        rw [List.any_cons, this, Bool.false_or]
      have hrest : (if r.hi = M then [] else mrg M (r.hi + 1) p).flatMap (fun r => nums r.lo r.hi) = (nums (r.hi + 1) top).filter (fun n => anyR n (r :: p)) := by
        by_cases hm : r.hi = M
        · rw [if_pos hm, nums_none (by omega)]; rfl
        · rw [if_neg hm, mrg_nums p (r.hi + 1) top hsp hr' hM]
          exact filter_same fun n hn _ => (hC n hn).symm
      rw [List.flatMap_cons, hrest, nums_cut (a := next) (b := r.hi) (c := top) (by omega) h2, List.filter_append]
      congr 1
      by_cases hz : next ≤ r.lo
      · by_cases hz0 : r.lo = next
        · rw [show max r.lo next = next by omega] at hB ⊢
          exact (filter_full (fun n h1 h2 => hB n h1 h2)).symm
        · rw [nums_cut (a := next) (b := r.lo - 1) (c := r.hi) (by omega) (by omega), List.filter_append, filter_none (fun n h1 h2 => hA n h1 (by omega)), List.nil_append, show r.lo - 1 + 1 = r.lo by omega]
          rw [show max r.lo next = r.lo by omega] at hB ⊢
          exact (filter_full (fun n h1 h2 => hB n h1 h2)).symm
      · rw [show max r.lo next = next by omega] at hB ⊢
        exact (filter_full (fun n h1 h2 => hB n h1 h2)).symm
/-- Has, by the merge. -/
theorem mrg_any {M : Nat} {p : List Rng} {next top n : Nat} (hs : sortedR p) (hr : ∀ r ∈ p, r.lo ≤ r.hi ∧ r.hi ≤ top) (hM : top ≤ M) : (mrg M next p).any (inR n) = (decide (next ≤ n) && anyR n p) := by
  have h := mrg_nums p next top hs hr hM
  rw [Bool.eq_iff_iff]
  have e1 : (mrg M next p).any (inR n) = true ↔ n ∈ (mrg M next p).flatMap (fun r => nums r.lo r.hi) := by
    rw [List.any_eq_true, List.mem_flatMap]
    constructor
    · rintro ⟨r, hr, hi⟩
      unfold inR at hi
      rw [Bool.and_eq_true, decide_eq_true_eq, decide_eq_true_eq] at hi
      exact ⟨r, hr, nums_mem.2 hi⟩
    · rintro ⟨r, hr, hi⟩
      refine ⟨r, hr, ?_⟩
      obtain ⟨h1, h2⟩ := nums_mem.1 hi
      unfold inR
      rw [decide_eq_true h1, decide_eq_true h2]; rfl
  rw [e1, h, List.mem_filter, nums_mem, Bool.and_eq_true, decide_eq_true_eq]
  constructor
  · rintro ⟨⟨h1, _⟩, h2⟩; exact ⟨h1, h2⟩
  · rintro ⟨h1, h2⟩
    refine ⟨⟨h1, ?_⟩, h2⟩
    unfold anyR at h2
    obtain ⟨r, hm, hi⟩ := List.any_eq_true.1 h2
    unfold inR at hi
    rw [Bool.and_eq_true, decide_eq_true_eq, decide_eq_true_eq] at hi
    have := hr r hm
    omega
/-- The reference's way: each number is tried. -/
def hasB (top n : Nat) (l : List Rng) : Bool := validB top l && l.any fun r => inR n (plainR top r)
def numsOf (top : Nat) (l : List Rng) : List Nat := if validB top l then (nums 1 top).filter (fun n => anyR n (l.map (plainR top))) else []
theorem plain_le {top : Nat} {r : Rng} (h1 : r.lo ≤ top) (h2 : r.hi ≤ top) : (plainR top r).lo ≤ (plainR top r).hi ∧ (plainR top r).hi ≤ top := by
  unfold plainR realN
  simp only
  split <;> split <;> omega
theorem anyR_map (top n : Nat) (l : List Rng) : anyR n (l.map (plainR top)) = l.any fun r => inR n (plainR top r) := by
  unfold anyR
  rw [List.any_map]; rfl
theorem anyR_perm {p q : List Rng} (h : p.Perm q) (n : Nat) : anyR n p = anyR n q := by
  unfold anyR
  rw [Bool.eq_iff_iff, List.any_eq_true, List.any_eq_true]
  exact ⟨fun ⟨r, h1, h2⟩ => ⟨r, h.mem_iff.1 h1, h2⟩, fun ⟨r, h1, h2⟩ => ⟨r, h.mem_iff.2 h1, h2⟩⟩
theorem valid_mem {top : Nat} {l : List Rng} (h : validB top l = true) : ∀ r ∈ l, r.lo ≤ top ∧ r.hi ≤ top := fun r hr => by
  unfold validB at h
  simp only [Bool.and_eq_true, List.all_eq_true, decide_eq_true_eq] at h
  exact h.2 r hr
/-- What the program's merge over a sorted list of plain ranges yields. -/
theorem merged_nums {M top : Nat} {l p : List Rng} (hv : validB top l = true) (hp : p.Perm (l.map (plainR top))) (hs : sortedR p) (hM : top ≤ M) : (mrg M 1 p).flatMap (fun r => nums r.lo r.hi) = numsOf top l := by
  have hr : ∀ r ∈ p, r.lo ≤ r.hi ∧ r.hi ≤ top := fun r hr => by
    obtain ⟨x, hx, rfl⟩ := List.mem_map.1 (hp.mem_iff.1 hr)
    obtain ⟨h1, h2⟩ := valid_mem hv x hx
    exact plain_le h1 h2
  rw [mrg_nums p 1 top hs hr hM]
  unfold numsOf
  rw [if_pos hv]
  exact filter_same fun n _ _ => anyR_perm hp n
theorem merged_has {M top n : Nat} {l p : List Rng} (hv : validB top l = true) (hp : p.Perm (l.map (plainR top))) (hs : sortedR p) (hM : top ≤ M) (hlo : ∀ r ∈ l, 0 < top) : (mrg M 1 p).any (inR n) = hasB top n l := by
  have hr : ∀ r ∈ p, r.lo ≤ r.hi ∧ r.hi ≤ top := fun r hr => by
    obtain ⟨x, hx, rfl⟩ := List.mem_map.1 (hp.mem_iff.1 hr)
    obtain ⟨h1, h2⟩ := valid_mem hv x hx
    exact plain_le h1 h2
  rw [mrg_any hs hr hM, anyR_perm hp n, anyR_map]
  unfold hasB
  rw [hv, Bool.true_and]
  by_cases h1 : 1 ≤ n
  · rw [decide_eq_true h1, Bool.true_and]
  · rw [decide_eq_false h1, Bool.false_and]
    symm
    rw [List.any_eq_false]
    intro r hr
    have := hlo r hr
    unfold inR plainR realN
    simp only
    rw [decide_eq_false]
    · simp
    · split <;> split <;> omega
end Go.Proofs.YtpcffnhbodjpbaaGreatDoor
