/- Plain laws on the streams of FrameLong and FrameBig. -/
import Derived.Test.YtllboenffepcgaaDoorJ6
set_option linter.unusedVariables false
set_option linter.unusedSimpArgs false
namespace Go.Proofs.YtllboenffepcgaaDoor

def reps (n : Nat) (c : UInt8) : List UInt8 := List.replicate n c
theorem reps_len (n : Nat) (c : UInt8) : (reps n c).length = n := by simp [reps]
theorem reps_no {n : Nat} {c d : UInt8} (h : c ≠ d) : ∀ b ∈ reps n c, b ≠ d := fun b hb => by
  unfold reps at hb
  obtain ⟨_, rfl⟩ := List.mem_replicate.1 hb
  exact h
theorem reps_ann {n : Nat} {c : UInt8} (h : c ≠ 125) : annP (reps n c) = none := annP_not _ (fun e => by
  unfold reps at e
  have := List.mem_of_getLast? e
  obtain ⟨_, e2⟩ := List.mem_replicate.1 this
  exact h e2.symm)
theorem endL_skip (a l r : List UInt8) (hl : ∀ b ∈ l, b ≠ 13) : endL (a ++ (l ++ 13 :: 10 :: r)) a.length = some (a.length + l.length) := by
  unfold endL
  rw [List.drop_left, findE_skip l r hl]
  simp only [Option.map_some, Option.some.injEq]
  omega
theorem text_at (a l r : List UInt8) : ((a ++ (l ++ r)).take (a.length + l.length)).drop a.length = l := by
  rw [List.drop_take, List.drop_left]
  simp
theorem take_at (a l r : List UInt8) : (a ++ (l ++ r)).take (a.length + l.length) = a ++ l := by
  rw [← List.append_assoc, List.take_left' (by simp)]
/-- A line that is too long. -/
theorem step_long (a l r : List UInt8) (hl : ∀ b ∈ l, b ≠ 13) (h : 8192 < l.length) : stepF (a ++ (l ++ 13 :: 10 :: r)) a.length = .done ⟨3, l.take 8192⟩ (a.length + l.length + 2) := by
  have h1 := text_at a l (13 :: 10 :: r)
  rw [stepF_long (endL_skip a l r hl) (by rw [h1]; exact h), h1]
theorem step_cmd (a l r : List UInt8) (hl : ∀ b ∈ l, b ≠ 13) (h : ¬ 8192 < l.length) (ha : annP l = none) : stepF (a ++ (l ++ 13 :: 10 :: r)) a.length = .done ⟨1, a ++ l⟩ (a.length + l.length + 2) := by
  have h1 := text_at a l (13 :: 10 :: r)
  rw [stepF_cmd (endL_skip a l r hl) (by rw [h1]; exact h) (by rw [h1]; exact ha), take_at]
theorem step_big (a l r : List UInt8) (hl : ∀ b ∈ l, b ≠ 13) (h : ¬ 8192 < l.length) {n : Nat} (ha : annP l = some n) (hn : 65536 < n) : stepF (a ++ (l ++ 13 :: 10 :: r)) a.length = .done ⟨4, a ++ l⟩ (a.length + l.length + 2) := by
  have h1 := text_at a l (13 :: 10 :: r)
  rw [stepF_big (endL_skip a l r hl) (by rw [h1]; exact h) (by rw [h1]; exact ha) hn, take_at]
theorem step_lit (a l r : List UInt8) (hl : ∀ b ∈ l, b ≠ 13) (h : ¬ 8192 < l.length) {n : Nat} (ha : annP l = some n) (hn : ¬ 65536 < n) : stepF (a ++ (l ++ 13 :: 10 :: r)) a.length = .ready (a.length + l.length + 2) n := by
  have h1 := text_at a l (13 :: 10 :: r)
  rw [stepF_lit (endL_skip a l r hl) (by rw [h1]; exact h) (by rw [h1]; exact ha) hn]
theorem drop_at (a l r : List UInt8) : (a ++ (l ++ 13 :: 10 :: r)).drop (a.length + l.length + 2) = r := by
  rw [show a ++ (l ++ 13 :: 10 :: r) = (a ++ l ++ [13, 10]) ++ r by simp, List.drop_left' (by simp; omega)]
theorem wait_z : stepF [122] 0 = .wait := stepF_none (by decide)
theorem wait_nil : stepF [] 0 = .wait := stepF_none (by decide)
/-- FrameLong without a literal. -/
theorem long_run (n : Nat) (c : UInt8) (h13 : c ≠ 13) (h125 : c ≠ 125) : Run (reps n c ++ [13, 10, 122]) 0 [if 8192 < n then ⟨3, (reps n c).take 8192⟩ else ⟨1, reps n c⟩] [122] 0 := by
  have hd := drop_at [] (reps n c) [122]
  simp only [List.nil_append, List.length_nil, Nat.zero_add] at hd
  by_cases h : 8192 < n
  · rw [if_pos h]
    have hs := step_long [] (reps n c) [122] (reps_no h13) (by rw [reps_len]; exact h)
    simp only [List.nil_append, List.length_nil, Nat.zero_add] at hs
    exact .done hs (by rw [hd]; exact .refl _ _)
  · rw [if_neg h]
    have hs := step_cmd [] (reps n c) [122] (reps_no h13) (by rw [reps_len]; exact h) (reps_ann h125)
    simp only [List.nil_append, List.length_nil, Nat.zero_add] at hs
    exact .done hs (by rw [hd]; exact .refl _ _)
def preL : List UInt8 := [123, 49, 125, 13, 10, 120]
/-- FrameLong behind a literal. -/
theorem lit_run (n : Nat) (c : UInt8) (h13 : c ≠ 13) (h125 : c ≠ 125) : Run (preL ++ (reps n c ++ [13, 10, 122])) 0 [⟨2, []⟩, if 8192 < n then ⟨3, (reps n c).take 8192⟩ else ⟨1, preL ++ reps n c⟩] [122] 0 := by
  have h0 := step_lit [] [123, 49, 125] (120 :: (reps n c ++ [13, 10, 122])) (by decide) (by decide) (n := 1) (by decide +kernel) (by decide)
  have hd := drop_at preL (reps n c) [122]
  refine .ready (a := 5) (n := 1) h0 ?_
  by_cases h : 8192 < n
  · rw [if_pos h]
    exact .done (step_long preL (reps n c) [122] (reps_no h13) (by rw [reps_len]; exact h)) (by rw [hd]; exact .refl _ _)
  · rw [if_neg h]
    exact .done (step_cmd preL (reps n c) [122] (reps_no h13) (by rw [reps_len]; exact h) (reps_ann h125)) (by rw [hd]; exact .refl _ _)
def headOk : List UInt8 := [97, 32, 123, 54, 53, 53, 51, 54, 125]
def headBig : List UInt8 := [97, 32, 123, 54, 53, 53, 51, 55, 125]
theorem big_run (m : Nat) (hm : 8192 < m) : Run (headBig ++ 13 :: 10 :: (reps m 120 ++ [13, 10])) 0 [⟨4, headBig⟩, ⟨3, (reps m 120).take 8192⟩] [] 0 := by
  have h0 := step_big [] headBig (reps m 120 ++ [13, 10]) (by decide) (by decide) (n := 65537) (by decide +kernel) (by decide)
  have hd0 := drop_at [] headBig (reps m 120 ++ [13, 10])
  have h1 := step_long [] (reps m 120) [] (reps_no (by decide)) (by rw [reps_len]; exact hm)
  have hd1 := drop_at [] (reps m 120) []
  simp only [List.nil_append, List.length_nil, Nat.zero_add] at h0 hd0 h1 hd1
  refine .done h0 ?_
  rw [hd0]
  exact .done h1 (by rw [hd1]; exact .refl _ _)
theorem ok_run : Run (headOk ++ 13 :: 10 :: (reps 65536 120 ++ [13, 10])) 0 [⟨2, []⟩, ⟨1, headOk ++ 13 :: 10 :: reps 65536 120⟩] [] 0 := by
  have h0 := step_lit [] headOk (reps 65536 120 ++ [13, 10]) (by decide) (by decide) (n := 65536) (by decide +kernel) (by decide)
  have h1 := step_cmd (headOk ++ 13 :: 10 :: reps 65536 120) [] [] (by simp) (by simp) (by decide)
  have hd1 := drop_at (headOk ++ 13 :: 10 :: reps 65536 120) [] []
  have hl : (headOk ++ 13 :: 10 :: reps 65536 120).length = 9 + 2 + 65536 := by
    simp only [List.length_append, List.length_cons, reps_len, headOk, List.length_nil]
  rw [hl] at h1 hd1
  simp only [List.nil_append, List.length_nil, Nat.zero_add, Nat.add_zero, List.append_nil] at h0 h1 hd1
  refine .ready h0 ?_
  rw [show headOk ++ 13 :: 10 :: (reps 65536 120 ++ [13, 10]) = (headOk ++ 13 :: 10 :: reps 65536 120) ++ [13, 10] by simp]
  refine .done (k := 9 + 2 + 65536 + 2) h1 ?_
  rw [hd1]
  exact .refl _ _
end Go.Proofs.YtllboenffepcgaaDoor
