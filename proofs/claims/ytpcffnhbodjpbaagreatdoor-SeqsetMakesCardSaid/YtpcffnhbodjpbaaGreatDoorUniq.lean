/- Plain laws on lists of numbers: ascending, each once; the ranges of such a list. -/
import Derived.Test.YtpcffnhbodjpbaaGreatDoorBase
import Derived.Lib.SlicesCompact
set_option linter.unusedVariables false
set_option linter.unusedSimpArgs false
namespace Go.Proofs.YtpcffnhbodjpbaaGreatDoor
open Go.Lib

def asc (l : List Int) : Prop := l.Pairwise fun a b => a < b
theorem asc_ext : ∀ {l m : List Int}, asc l → asc m → (∀ x, x ∈ l ↔ x ∈ m) → l = m
  | [], [], _, _, _ => rfl
  | [], y :: m, _, _, h => absurd ((h y).2 (by simp)) (by simp)
  | x :: l, [], _, _, h => absurd ((h x).1 (by simp)) (by simp)
  | x :: l, y :: m, hl, hm, h => by
    obtain ⟨h1, h2⟩ := List.pairwise_cons.1 hl
    obtain ⟨h3, h4⟩ := List.pairwise_cons.1 hm
    have e : x = y := by
      have a := (h x).1 (by simp)
      have b := (h y).2 (by simp)
      rcases List.mem_cons.1 a with a | a
      · exact a
      · rcases List.mem_cons.1 b with b | b
        · exact b.symm
        · have := h3 _ a
          have := h1 _ b
          omega
    subst e
    congr 1
    refine asc_ext h2 h4 fun z => ?_
    constructor
    · intro hz
      rcases List.mem_cons.1 ((h z).1 (List.mem_cons_of_mem _ hz)) with e | e
      · have := h1 _ hz; omega
      · exact e
    · intro hz
      rcases List.mem_cons.1 ((h z).2 (List.mem_cons_of_mem _ hz)) with e | e
      · have := h3 _ hz; omega
      · exact e
theorem asc_append {l m : List Int} : asc (l ++ m) ↔ asc l ∧ asc m ∧ ∀ a ∈ l, ∀ b ∈ m, a < b := List.pairwise_append

/-- Where a number belongs in an ascending list: how many elements are at most it. -/
def atU (out : List Int) (x : Int) : Nat := (out.takeWhile fun y => decide (y ≤ x)).length
theorem atU_le (out : List Int) (x : Int) : atU out x ≤ out.length := by
  unfold atU
  have := (List.takeWhile_prefix (l := out) (fun y => decide (y ≤ x))).length_le
  exact this
theorem atU_cut (out : List Int) (x : Int) : out.take (atU out x) = out.takeWhile (fun y => decide (y ≤ x)) ∧ out.drop (atU out x) = out.dropWhile fun y => decide (y ≤ x) := by
  have h := List.takeWhile_append_dropWhile (p := fun y => decide (y ≤ x)) (l := out)
  unfold atU
  constructor
  · conv => lhs; rw [← h]
    rw [List.take_left']
    rw [h]
  · conv => lhs; rw [← h]
    rw [List.drop_left']
    rw [h]
theorem atU_front {out : List Int} {x : Int} : ∀ y ∈ out.take (atU out x), y ≤ x := fun y hy => by
  rw [(atU_cut out x).1] at hy
  have := List.all_takeWhile (l := out) (p := fun y => decide (y ≤ x))
  exact of_decide_eq_true (List.all_eq_true.1 this y hy)
theorem atU_back : ∀ {out : List Int} {x : Int}, asc out → ∀ y ∈ out.drop (atU out x), x < y
  | [], _, _, y, hy => by simp at hy
  | a :: out, x, h, y, hy => by
    rw [(atU_cut _ x).2] at hy
    by_cases ha : a ≤ x
    · rw [List.dropWhile_cons_of_pos (by simpa using ha), ← (atU_cut out x).2] at hy
      exact atU_back (List.pairwise_cons.1 h).2 y hy
    · rw [List.dropWhile_cons_of_neg (by simpa using ha)] at hy
      rcases List.mem_cons.1 hy with rfl | hy
      · omega
      · have := (List.pairwise_cons.1 h).1 y hy
        omega
theorem atU_test {out : List Int} {x : Int} (h : asc out) {i : Nat} (hi : i < out.length) : x < out[i] ↔ atU out x ≤ i := by
  constructor
  · intro hx
    rcases Nat.lt_or_ge i (atU out x) with hl | hl
    · have hm : out[i] ∈ out.take (atU out x) := by
        rw [List.mem_take_iff_getElem]
        exact ⟨i, by omega, rfl⟩
      have := atU_front _ hm
      omega
    · exact hl
  · intro hl
    refine atU_back h _ ?_
    rw [List.mem_drop_iff_getElem]
    exact ⟨i - atU out x, by omega, by congr 1; omega⟩
/-- The reference's insertion. -/
def insU (out : List Int) (x : Int) : List Int := if x = 0 ∨ x ∈ out then out else out.take (atU out x) ++ x :: out.drop (atU out x)
theorem at_mem {out : List Int} {x : Int} (h : asc out) : x ∈ out ↔ 0 < atU out x ∧ out[atU out x - 1]? = some x := by
  constructor
  · intro hx
    obtain ⟨i, hi, e⟩ := List.mem_iff_getElem.1 hx
    have hat : i < atU out x := by
      rcases Nat.lt_or_ge i (atU out x) with hl | hl
      · exact hl
      · have := (atU_test h hi).2 hl
        omega
    have hle := atU_le out x
    refine ⟨by omega, ?_⟩
    have hk : atU out x - 1 < out.length := by omega
    rw [List.getElem?_eq_getElem hk]
    congr 1
    have h1 : out[atU out x - 1] ≤ x := by
      have := atU_test (x := x) h hk
      have h3 : ¬ x < out[atU out x - 1] := fun h' => by have := this.1 h'; omega
      omega
    rcases Nat.lt_or_ge i (atU out x - 1) with hl | hl
    · have := List.pairwise_iff_getElem.1 h i (atU out x - 1) hi hk hl
      omega
    · have e2 : i = atU out x - 1 := by omega
      subst e2
      exact e
  · rintro ⟨_, e⟩
    exact List.mem_of_getElem? e
theorem insU_asc {out : List Int} {x : Int} (h : asc out) : asc (insU out x) := by
  unfold insU
  split
  · exact h
  · rename_i hn
    have hc : out.take (atU out x) ++ out.drop (atU out x) = out := List.take_append_drop _ _
    have ha : asc (out.take (atU out x) ++ out.drop (atU out x)) := by rw [hc]; exact h
    obtain ⟨h1, h2, h3⟩ := asc_append.1 ha
    refine asc_append.2 ⟨h1, List.pairwise_cons.2 ⟨fun b hb => atU_back h b hb, h2⟩, fun a hA b hb => ?_⟩
    have hax : a < x := by
      have := atU_front a hA
      have hne : a ≠ x := by
        rintro rfl
        exact hn (.inr (List.mem_of_mem_take hA))
      omega
    rcases List.mem_cons.1 hb with rfl | hb
    · exact hax
    · exact h3 a hA b hb
theorem insU_mem {out : List Int} {x y : Int} : y ∈ insU out x ↔ y ∈ out ∨ (y = x ∧ x ≠ 0) := by
  unfold insU
  split
  · rename_i hx
    constructor
    · exact fun h => .inl h
    · rintro (h | ⟨rfl, h⟩)
      · exact h
      · rcases hx with hx | hx
        · exact absurd hx h
        · exact hx
  · rename_i hn
    have hc : out.take (atU out x) ++ out.drop (atU out x) = out := List.take_append_drop _ _
    have hx0 : x ≠ 0 := fun e => hn (.inl e)
    rw [List.mem_append, List.mem_cons]
    constructor
    · rintro (h | rfl | h)
      · exact .inl (List.mem_of_mem_take h)
      · exact .inr ⟨rfl, hx0⟩
      · exact .inl (List.mem_of_mem_drop h)
    · rintro (h | ⟨rfl, _⟩)
      · rw [← hc, List.mem_append] at h
        rcases h with h | h
        · exact .inl h
        · exact .inr (.inr h)
      · exact .inr (.inl rfl)
/-- The reference's sorted list. -/
def srtU (l : List Int) : List Int := l.foldl insU []
theorem foldU : ∀ (l out : List Int), asc out → asc (l.foldl insU out) ∧ ∀ y, y ∈ l.foldl insU out ↔ y ∈ out ∨ (y ∈ l ∧ y ≠ 0)
  | [], out, h => ⟨h, fun y => by simp⟩
  | x :: l, out, h => by
    obtain ⟨h1, h2⟩ := foldU l (insU out x) (insU_asc h)
    refine ⟨h1, fun y => ?_⟩
    rw [List.foldl_cons, h2, insU_mem, List.mem_cons]
    constructor
    · rintro ((h | ⟨rfl, h⟩) | ⟨h, hy⟩)
      · exact .inl h
      · exact .inr ⟨.inl rfl, h⟩
      · exact .inr ⟨.inr h, hy⟩
    · rintro (h | ⟨rfl | h, hy⟩)
      · exact .inl (.inl h)
      · exact .inl (.inr ⟨rfl, hy⟩)
      · exact .inr ⟨h, hy⟩
theorem srtU_asc (l : List Int) : asc (srtU l) := (foldU l [] List.Pairwise.nil).1
theorem srtU_mem {l : List Int} {y : Int} : y ∈ srtU l ↔ y ∈ l ∧ y ≠ 0 := by
  unfold srtU
  rw [(foldU l [] List.Pairwise.nil).2 y]
  simp
theorem srtU_take (l : List Int) (i : Nat) (hi : i < l.length) : srtU (l.take (i + 1)) = insU (srtU (l.take i)) l[i] := by
  unfold srtU
  rw [List.take_succ_eq_append_getElem hi, List.foldl_append]
  rfl
theorem insU_len (out : List Int) (x : Int) : (insU out x).length ≤ out.length + 1 := by
  unfold insU
  split
  · omega
  · have : (out.take (atU out x)).length + (out.drop (atU out x)).length = out.length := by rw [← List.length_append, List.take_append_drop]
    rw [List.length_append, List.length_cons]
    omega
theorem srtU_len (l : List Int) : (srtU l).length ≤ l.length := by
  unfold srtU
  have : ∀ (l out : List Int), (l.foldl insU out).length ≤ out.length + l.length := by
    intro l
    induction l with
    | nil => intro out; simp
    | cons x l ih =>
      intro out
      have := ih (insU out x)
      have := insU_len out x
      simp only [List.foldl_cons, List.length_cons]
      omega
  simpa using this l []

/-- What Compact leaves of a sorted row: ascending, the same elements. -/
theorem compact_sorted {d : Array Int} (hs : ∀ i, i + 1 < d.size → d[i]! ≤ d[i + 1]!) : ∀ m, m ≤ d.size → asc (compactUpTo d m) ∧ (∀ x, x ∈ compactUpTo d m ↔ ∃ j, j < m ∧ d[j]! = x) ∧ ∀ x ∈ compactUpTo d m, 0 < m → x ≤ d[m - 1]!
  | 0, _ => by simp [compactUpTo, asc]
  | m + 1, h => by
    obtain ⟨h1, h2, h3⟩ := compact_sorted hs m (by omega)
    have hmono : 0 < m → d[m - 1]! ≤ d[m]! := fun hm => by
      have := hs (m - 1) (by omega)
      rwa [show m - 1 + 1 = m by omega] at this
    rw [compactUpTo_succ]
    by_cases hk : keeps d m = true
    · rw [if_pos hk]
      have hne : ∀ a ∈ compactUpTo d m, a < d[m]! := fun a ha => by
        obtain ⟨j, hj, -⟩ := (h2 a).1 ha
        have h4 := h3 a ha (by omega)
        have h5 := hmono (by omega)
        unfold keeps at hk
        have := of_decide_eq_true hk
        rcases this with e | e
        · omega
        · omega
      refine ⟨asc_append.2 ⟨h1, by simp [asc], fun a ha b hb => ?_⟩, fun x => ?_, fun x hx _ => ?_⟩
      · rw [List.mem_singleton] at hb
        subst hb
        exact hne a ha
      · rw [List.mem_append, h2, List.mem_singleton]
        constructor
        · rintro (⟨j, hj, e⟩ | rfl)
          · exact ⟨j, by omega, e⟩
          · exact ⟨m, by omega, rfl⟩
        · rintro ⟨j, hj, e⟩
          rcases Nat.lt_or_ge j m with hl | hl
          · exact .inl ⟨j, hl, e⟩
          · have : j = m := by omega
            subst this
            exact .inr e.symm
      · rw [Nat.add_sub_cancel]
        rcases List.mem_append.1 hx with hx | hx
        · have := hne x hx; omega
        · rw [List.mem_singleton] at hx
          omega
    · have hk' : keeps d m = false := by simpa using hk
      rw [hk', if_neg Bool.false_ne_true, List.append_nil]
      have e0 : 0 < m ∧ d[m]! = d[m - 1]! := by
        unfold keeps at hk'
        have := of_decide_eq_false hk'
        constructor
        · rcases Nat.eq_zero_or_pos m with h | h
          · exact absurd (.inl h) this
          · exact h
        · by_cases e : d[m]! = d[m - 1]!
          · exact e
          · exact absurd (.inr e) this
      refine ⟨h1, fun x => ?_, fun x hx _ => ?_⟩
      · rw [h2]
        constructor
        · rintro ⟨j, hj, e⟩
          exact ⟨j, by omega, e⟩
        · rintro ⟨j, hj, e⟩
          rcases Nat.lt_or_ge j m with hl | hl
          · exact ⟨j, hl, e⟩
          · have : j = m := by omega
            subst this
            exact ⟨j - 1, by omega, by rw [← e0.2]; exact e⟩
      · rw [Nat.add_sub_cancel]
        have := h3 x hx e0.1
        omega
def cmpU (l : List Int) : List Int := compact (l.mergeSort fun x y => decide (x ≤ y))
theorem cmpU_spec (l : List Int) : asc (cmpU l) ∧ ∀ x, x ∈ cmpU l ↔ x ∈ l := by
  unfold cmpU compact
  have hp := List.mergeSort_perm l (fun x y => decide (x ≤ y))
  have hs : (l.mergeSort fun x y => decide (x ≤ y)).Pairwise fun a b => decide (a ≤ b) = true := List.pairwise_mergeSort (fun a b c h1 h2 => by
    simp only [decide_eq_true_eq] at *; omega) (fun a b => by simp only [Bool.or_eq_true, decide_eq_true_eq]; omega) l
  generalize l.mergeSort (fun x y => decide (x ≤ y)) = m at hp hs
  obtain ⟨h1, h2, -⟩ := compact_sorted (d := m.toArray) (fun i hi => by
    have hi' : i + 1 < m.length := by simpa using hi
    have := List.pairwise_iff_getElem.1 hs i (i + 1) (by omega) hi' (by omega)
    simp only [decide_eq_true_eq] at this
    simpa [getElem!_pos, show i < m.length by omega, hi'] using this) m.length (by simp)
  refine ⟨h1, fun x => ?_⟩
  rw [h2, ← hp.mem_iff, List.mem_iff_getElem]
  constructor
  · rintro ⟨j, hj, e⟩
    exact ⟨j, hj, by simpa [getElem!_pos, hj] using e⟩
  · rintro ⟨j, hj, e⟩
    exact ⟨j, hj, by simpa [getElem!_pos, hj] using e⟩
/-- What index.New keeps: without a leading 0. -/
def newU (l : List Int) : List Int := match cmpU l with
  | [] => []
  | x :: t => if x = 0 then t else x :: t
theorem newU_eq {l : List Int} (h0 : ∀ x ∈ l, 0 ≤ x) : newU l = srtU l := by
  obtain ⟨h1, h2⟩ := cmpU_spec l
  have hn : ∀ x ∈ cmpU l, 0 ≤ x := fun x hx => h0 x ((h2 x).1 hx)
  unfold newU
  cases hc : cmpU l with
  | nil =>
    rw [hc] at h2
    refine asc_ext List.Pairwise.nil (srtU_asc l) fun x => ?_
    rw [srtU_mem]
    constructor
    · intro h; simp at h
    · rintro ⟨h, _⟩
      exact (h2 x).2 h
  | cons x t =>
    rw [hc] at h1 h2 hn
    obtain ⟨h3, h4⟩ := List.pairwise_cons.1 h1
    simp only
    split
    · rename_i e
      subst e
      refine asc_ext h4 (srtU_asc l) fun y => ?_
      rw [srtU_mem, ← h2, List.mem_cons]
      constructor
      · intro hy
        have := h3 y hy
        exact ⟨.inr hy, by omega⟩
      · rintro ⟨e | hy, hne⟩
        · exact absurd e hne
        · exact hy
    · rename_i hx
      refine asc_ext h1 (srtU_asc l) fun y => ?_
      rw [srtU_mem, ← h2]
      constructor
      · intro hy
        refine ⟨hy, ?_⟩
        have hx0 := hn x (by simp)
        rcases List.mem_cons.1 hy with rfl | hy
        · exact hx
        · have := h3 y hy
          omega
      · exact fun h => h.1
/-- The ranges of a list of numbers. -/
def stepG (out : List (Int × Int)) (x : Int) : List (Int × Int) := match out.getLast? with
  | none => [(x, x)]
  | some (a, b) => if b + 1 = x then out.dropLast ++ [(a, x)] else out ++ [(x, x)]
def grp (l : List Int) : List (Int × Int) := l.foldl stepG []
theorem grp_snoc (l : List Int) (x : Int) : grp (l ++ [x]) = stepG (grp l) x := by
  unfold grp
  rw [List.foldl_append]; rfl
theorem stepG_last (out : List (Int × Int)) (x : Int) : ∃ a, (stepG out x).getLast? = some (a, x) := by
  unfold stepG
  cases out.getLast? with
  | none => exact ⟨x, rfl⟩
  | some p =>
    simp only
    split
    · exact ⟨p.1, by simp⟩
    · exact ⟨x, by simp⟩
theorem grp_last {l : List Int} {x : Int} (h : l.getLast? = some x) : ∃ a, (grp l).getLast? = some (a, x) := by
  obtain ⟨m, rfl⟩ := List.getLast?_eq_some_iff.1 h
  rw [grp_snoc]
  exact stepG_last _ _
theorem grp_nil_iff {l : List Int} : grp l = [] ↔ l = [] := by
  rcases List.eq_nil_or_concat l with rfl | ⟨m, x, rfl⟩
  · simp [grp]
  · rw [List.concat_eq_append]
    obtain ⟨a, ha⟩ := grp_last (l := m ++ [x]) (x := x) (by simp)
    constructor
    · intro h; rw [h] at ha; simp at ha
    · intro h; simp at h
end Go.Proofs.YtpcffnhbodjpbaaGreatDoor
