/- Plain laws: the ranges of a list of numbers cover just these, apart from one another; their numbers are the list. -/
import Derived.Test.YtpcffnhbodjpbaaGreatDoorOfW
import Derived.Test.YtpcffnhbodjpbaaGreatDoorRgB
import Derived.Test.YtpcffnhbodjpbaaGreatDoorRefS
set_option linter.unusedVariables false
set_option linter.unusedSimpArgs false
namespace Go.Proofs.YtpcffnhbodjpbaaGreatDoor
open Go Go.RowKit Go.Shelf Go.Lib Go.Sort

def CovP (out : List (Int × Int)) (m : List Int) : Prop := (∀ p ∈ out, p.1 ≤ p.2) ∧ ∀ k, (∃ p ∈ out, p.1 ≤ k ∧ k ≤ p.2) ↔ k ∈ m
theorem stepG_cov {out : List (Int × Int)} {m : List Int} {x : Int} (h : CovP out m) : CovP (stepG out x) (m ++ [x]) := by
  obtain ⟨h1, h2⟩ := h
  rcases List.eq_nil_or_concat out with rfl | ⟨D, ⟨a, b⟩, rfl⟩
  · refine ⟨fun p hp => ?_, fun k => ?_⟩
    · simp [stepG] at hp
      subst hp
      exact Int.le_refl _
    · rw [List.mem_append, ← h2 k]
      simp [stepG]
      omega
  · rw [List.concat_eq_append] at *
    have hab : a ≤ b := h1 (a, b) (by simp)
    by_cases hb : b + 1 = x
    · have e : stepG (D ++ [(a, b)]) x = D ++ [(a, x)] := by
        unfold stepG
        rw [List.getLast?_append]
        simp [hb]
      rw [e]
      refine ⟨fun p hp => ?_, fun k => ?_⟩
      · rcases List.mem_append.1 hp with hp | hp
        · exact h1 p (List.mem_append_left _ hp)
        · simp at hp
          subst hp
          show a ≤ x
          omega
      · rw [List.mem_append, ← h2 k]
        constructor
        · rintro ⟨p, hp, hk⟩
          rcases List.mem_append.1 hp with hp | hp
          · exact .inl ⟨p, List.mem_append_left _ hp, hk⟩
          · simp at hp
            subst hp
            simp only at hk
            by_cases hkx : k = x
            · exact .inr (by simp [hkx])
            · exact .inl ⟨(a, b), by simp, hk.1, by show k ≤ b; omega⟩
        · rintro (⟨p, hp, hk⟩ | hk)
          · rcases List.mem_append.1 hp with hp | hp
            · exact ⟨p, List.mem_append_left _ hp, hk⟩
            · simp at hp
              subst hp
              simp only at hk
              exact ⟨(a, x), by simp, hk.1, by show k ≤ x; omega⟩
          · simp at hk
            exact ⟨(a, x), by simp, by show a ≤ k; omega, by show k ≤ x; omega⟩
    · have e : stepG (D ++ [(a, b)]) x = (D ++ [(a, b)]) ++ [(x, x)] := by
        unfold stepG
        rw [List.getLast?_append]
        simp [hb]
      rw [e]
      refine ⟨fun p hp => ?_, fun k => ?_⟩
      · rcases List.mem_append.1 hp with hp | hp
        · exact h1 p hp
        · simp at hp
          subst hp
          exact Int.le_refl _
      · rw [List.mem_append, ← h2 k]
        constructor
        · rintro ⟨p, hp, hk⟩
          rcases List.mem_append.1 hp with hp | hp
          · exact .inl ⟨p, hp, hk⟩
          · simp at hp
            subst hp
            simp only at hk
            exact .inr (by simp; omega)
        · rintro (⟨p, hp, hk⟩ | hk)
          · exact ⟨p, List.mem_append_left _ hp, hk⟩
          · simp at hk
            exact ⟨(x, x), by simp, by show x ≤ k; omega, by show k ≤ x; omega⟩
theorem foldG_cov : ∀ (l : List Int) (out : List (Int × Int)) (m : List Int), CovP out m → CovP (l.foldl stepG out) (m ++ l)
  | [], out, m, h => by rw [List.append_nil]; exact h
  | x :: l, out, m, h => by
    have := foldG_cov l _ _ (stepG_cov (x := x) h)
    rw [List.append_assoc] at this
    exact this
theorem grp_cov (l : List Int) : CovP (grp l) l := by
  have := foldG_cov l [] [] ⟨by simp, by simp⟩
  rwa [List.nil_append] at this
theorem grp_in {l : List Int} : ∀ p ∈ grp l, p.1 ∈ l ∧ p.2 ∈ l := foldG_in (S := fun y => y ∈ l) l [] (by simp) (fun _ h => h)

def rbP (p : Int × Int) : RB := (⟨p.1.toNat % 4294967296, by omega⟩, ⟨p.2.toNat % 4294967296, by omega⟩)
theorem rbP_enc {p : Int × Int} (h1 : 0 ≤ p.1 ∧ p.1 < 4294967296) (h2 : 0 ≤ p.2 ∧ p.2 < 4294967296) : encB (rbP p) = encP p := by
  unfold encB encR encP rbP RB.rng
  simp only
  congr 2
  · omega
  · congr 1
    congr 1
    omega
theorem rbP_flat {G : List (Int × Int)} (h : ∀ p ∈ G, (0 ≤ p.1 ∧ p.1 < 4294967296) ∧ (0 ≤ p.2 ∧ p.2 < 4294967296)) : (G.map rbP).flatMap encB = G.flatMap encP := by
  induction G with
  | nil => rfl
  | cons p G ih =>
    rw [List.map_cons, List.flatMap_cons, List.flatMap_cons, ih (fun q hq => h q (List.mem_cons_of_mem _ hq)), rbP_enc (h p (by simp)).1 (h p (by simp)).2]
theorem rbP_plain {p : Int × Int} {top : Nat} (ht : top < 4294967296) (h1 : 1 ≤ p.1) (h2 : p.1 ≤ p.2) (h3 : p.2 ≤ top) : (RB.rng (rbP p)).lo ≤ top ∧ (RB.rng (rbP p)).hi ≤ top ∧ plainR top (RB.rng (rbP p)) = ⟨p.1.toNat, p.2.toNat⟩ := by
  have e : RB.rng (rbP p) = ⟨p.1.toNat, p.2.toNat⟩ := by
    unfold RB.rng rbP
    simp only [Rng.mk.injEq]
    omega
  rw [e]
  refine ⟨by simp only; omega, by simp only; omega, ?_⟩
  unfold plainR realN
  simp only
  rw [if_neg (by omega), if_neg (by omega), Rng.mk.injEq]
  omega
theorem numsOf_asc (top : Nat) (l : List Rng) : (numsOf top l).Pairwise fun a b => a < b := by
  unfold numsOf
  split
  · exact List.Pairwise.filter _ (by unfold nums; exact List.pairwise_lt_range')
  · exact List.Pairwise.nil

/-- The ranges lie apart. -/
def SepP (out : List (Int × Int)) : Prop := out.Pairwise fun p q => p.2 + 1 < q.1
theorem stepG_sep {out : List (Int × Int)} {x : Int} (h1 : SepP out) (h2 : ∀ p ∈ out, p.1 ≤ p.2) (h3 : ∀ p ∈ out, p.2 < x) : SepP (stepG out x) ∧ ∀ p ∈ stepG out x, p.1 ≤ p.2 ∧ p.2 ≤ x := by
  rcases List.eq_nil_or_concat out with rfl | ⟨D, ⟨a, b⟩, rfl⟩
  · refine ⟨by simp [stepG, SepP], fun p hp => ?_⟩
    simp [stepG] at hp
    subst hp
    exact ⟨Int.le_refl _, Int.le_refl _⟩
  · rw [List.concat_eq_append] at *
    have hab := h2 (a, b) (by simp)
    have hbx := h3 (a, b) (by simp)
    have hD : ∀ p ∈ D, p.2 + 1 < a := fun p hp => (List.pairwise_append.1 h1).2.2 p hp (a, b) (by simp)
    simp only at hab hbx
    by_cases hb : b + 1 = x
    · have e : stepG (D ++ [(a, b)]) x = D ++ [(a, x)] := by
        unfold stepG
        rw [List.getLast?_append]
        simp [hb]
      rw [e]
      refine ⟨List.pairwise_append.2 ⟨(List.pairwise_append.1 h1).1, by simp, fun p hp q hq => ?_⟩, fun p hp => ?_⟩
      · simp at hq
        subst hq
        exact hD p hp
      · rcases List.mem_append.1 hp with hp | hp
        · have := h3 p (List.mem_append_left _ hp)
          exact ⟨h2 p (List.mem_append_left _ hp), by omega⟩
        · simp at hp
          subst hp
          exact ⟨by show a ≤ x; omega, Int.le_refl _⟩
    · have e : stepG (D ++ [(a, b)]) x = (D ++ [(a, b)]) ++ [(x, x)] := by
        unfold stepG
        rw [List.getLast?_append]
        simp [hb]
      rw [e]
      refine ⟨List.pairwise_append.2 ⟨h1, by simp, fun p hp q hq => ?_⟩, fun p hp => ?_⟩
      · simp at hq
        subst hq
        show p.2 + 1 < x
        rcases List.mem_append.1 hp with hp | hp
        · have := hD p hp
          omega
        · simp at hp
          subst hp
          show b + 1 < x
          omega
      · rcases List.mem_append.1 hp with hp | hp
        · have := h3 p hp
          exact ⟨h2 p hp, by omega⟩
        · simp at hp
          subst hp
          exact ⟨Int.le_refl _, Int.le_refl _⟩
theorem foldG_sep : ∀ (l : List Int) (out : List (Int × Int)), asc l → SepP out → (∀ p ∈ out, p.1 ≤ p.2) → (∀ p ∈ out, ∀ x ∈ l, p.2 < x) → SepP (l.foldl stepG out)
  | [], _, _, h, _, _ => h
  | x :: l, out, ha, h, h2, h3 => by
    obtain ⟨s1, s2⟩ := stepG_sep (x := x) h h2 (fun p hp => h3 p hp x (by simp))
    refine foldG_sep l _ (List.pairwise_cons.1 ha).2 s1 (fun p hp => (s2 p hp).1) (fun p hp y hy => ?_)
    have := (s2 p hp).2
    have := (List.pairwise_cons.1 ha).1 y hy
    omega
theorem grp_sep {l : List Int} (h : asc l) : SepP (grp l) := foldG_sep l [] h (by simp [SepP]) (by simp) (by simp)
theorem nums_of_grp {P : List Int} {top : Nat} (ha : asc P) (hb : ∀ k ∈ P, 1 ≤ k ∧ k ≤ (top : Int)) (ht : top < 4294967296) : (numsOf top (((grp P).map rbP).map RB.rng)).map (fun n : Nat => (n : Int)) = P := by
  obtain ⟨hc1, hc2⟩ := grp_cov P
  have hpl : ∀ p ∈ grp P, (RB.rng (rbP p)).lo ≤ top ∧ (RB.rng (rbP p)).hi ≤ top ∧ plainR top (RB.rng (rbP p)) = ⟨p.1.toNat, p.2.toNat⟩ := fun p hp => by
    have h1 := hb _ (grp_in p hp).1
    have h2 := hb _ (grp_in p hp).2
    exact rbP_plain ht h1.1 (hc1 p hp) h2.2
  refine asc_ext ?_ ha (fun x => ?_)
  · have := numsOf_asc top (((grp P).map rbP).map RB.rng)
    unfold asc
    rw [List.pairwise_map]
    exact this.imp (fun h => by omega)
  · rw [List.mem_map]
    by_cases hn : P = []
    · subst hn
      simp only [List.not_mem_nil, iff_false]
      rintro ⟨n, hn, -⟩
      unfold numsOf validB at hn
      simp [grp] at hn
    · have hg : grp P ≠ [] := fun e => hn (grp_nil_iff.1 e)
      obtain ⟨k, t, hkt⟩ := List.exists_cons_of_ne_nil hn
      have hk1 := hb k (by rw [hkt]; simp)
      have hval : validB top (((grp P).map rbP).map RB.rng) = true := by
        unfold validB
        rw [decide_eq_true (by omega : 0 < top), Bool.true_and, Bool.and_eq_true]
        constructor
        · obtain ⟨p, q, hpq⟩ := List.exists_cons_of_ne_nil hg
          rw [hpq]; rfl
        · rw [List.all_eq_true]
          intro r hr
          rw [List.map_map, List.mem_map] at hr
          obtain ⟨p, hp, rfl⟩ := hr
          have := hpl p hp
          simp only [Function.comp]
          rw [decide_eq_true this.1, decide_eq_true this.2.1]
          rfl
      unfold numsOf
      rw [if_pos hval]
      have hany : ∀ n : Nat, anyR n ((((grp P).map rbP).map RB.rng).map (plainR top)) = true ↔ (n : Int) ∈ P := fun n => by
        rw [← hc2 (n : Int)]
        unfold anyR
        rw [List.any_eq_true]
        constructor
        · rintro ⟨r, hr, hi⟩
          rw [List.map_map, List.map_map, List.mem_map] at hr
          obtain ⟨p, hp, rfl⟩ := hr
          simp only [Function.comp] at hi
          rw [(hpl p hp).2.2] at hi
          unfold inR at hi
          rw [Bool.and_eq_true, decide_eq_true_eq, decide_eq_true_eq] at hi
          dsimp only at hi
          have h1 := hb _ (grp_in p hp).1
          have h2 := hb _ (grp_in p hp).2
          exact ⟨p, hp, by omega, by omega⟩
        · rintro ⟨p, hp, h1, h2⟩
          refine ⟨⟨p.1.toNat, p.2.toNat⟩, ?_, ?_⟩
          · rw [List.map_map, List.map_map, List.mem_map]
            exact ⟨p, hp, (hpl p hp).2.2⟩
          · unfold inR
            rw [Bool.and_eq_true, decide_eq_true_eq, decide_eq_true_eq]
            show p.1.toNat ≤ n ∧ n ≤ p.2.toNat
            omega
      constructor
      · rintro ⟨n, hm, rfl⟩
        rw [List.mem_filter] at hm
        exact (hany n).1 hm.2
      · intro hx
        have h1 := hb x hx
        refine ⟨x.toNat, ?_, by omega⟩
        rw [List.mem_filter, nums_mem]
        exact ⟨by omega, (hany _).2 (by rw [show ((x.toNat : Nat) : Int) = x by omega]; exact hx)⟩
/-- The greatest of some numbers. -/
def topL (l : List Nat) : Nat := l.foldl max 0
theorem topL_snoc (l : List Nat) (x : Nat) : topL (l ++ [x]) = max (topL l) x := by unfold topL; rw [List.foldl_append]; rfl
theorem topL_le : ∀ (l : List Nat) (x : Nat), x ∈ l → x ≤ topL l := by
  have hg : ∀ (l : List Nat) (a : Nat), a ≤ l.foldl max a ∧ ∀ x ∈ l, x ≤ l.foldl max a := by
    intro l
    induction l with
    | nil => intro a; exact ⟨Nat.le_refl _, fun x h => by cases h⟩
    | cons y l ih =>
      intro a
      obtain ⟨h1, h2⟩ := ih (max a y)
      refine ⟨Nat.le_trans (Nat.le_max_left _ _) h1, fun x hx => ?_⟩
      rcases List.mem_cons.1 hx with rfl | hx
      · exact Nat.le_trans (Nat.le_max_right _ _) h1
      · exact h2 x hx
  exact fun l x hx => (hg l 0).2 x hx
end Go.Proofs.YtpcffnhbodjpbaaGreatDoor
