/- Plain laws: the set of the places of some identifiers has just these places. -/
import Derived.Test.YtlfpefebocepfaaGreatSetW
import Derived.Test.YtlfpefebocepfaaGreatLawRsC
set_option linter.unusedVariables false
set_option linter.unusedSimpArgs false
namespace Go.Proofs.YtlfpefebocepfaaGreat
open Go Go.RowKit Go.Shelf Go.Lib Go.Sort

theorem cnt_at {l : List Int} (h : asc l) {i : Nat} {u : Int} (hu : l[i]? = some u) : cntU l u = i := by
  obtain ⟨hi, e⟩ := List.getElem?_eq_some_iff.1 hu
  have h1 : (l.take i).countP (fun y => decide (y < u)) = i := by
    rw [List.countP_eq_length.2 (fun y hy => ?_), List.length_take]
    · omega
    · rw [List.mem_take_iff_getElem] at hy
      obtain ⟨j, hj, rfl⟩ := hy
      rw [decide_eq_true_eq, ← e]
      exact List.pairwise_iff_getElem.1 h j i (by omega) hi (by omega)
  have h2 : (l.drop i).countP (fun y => decide (y < u)) = 0 := by
    rw [List.countP_eq_zero]
    intro y hy
    rw [List.mem_drop_iff_getElem] at hy
    obtain ⟨j, hj, rfl⟩ := hy
    rw [decide_eq_true_eq, ← e]
    rcases Nat.eq_zero_or_pos j with rfl | hj0
    · simp
    · have := List.pairwise_iff_getElem.1 h i (i + j) hi (by omega) (by omega)
      omega
  unfold cntU
  rw [← List.take_append_drop i l, List.countP_append, h1, h2, Nat.add_zero]
theorem pos_at {l : List Int} (h : asc l) {i : Nat} {u : Int} (hu : l[i]? = some u) : posU l u = i + 1 := by
  unfold posU
  rw [cnt_at h hu, if_pos hu]
theorem pos_none {l : List Int} {u : Int} (hu : ¬ u ∈ l) : posU l u = 0 := by
  unfold posU
  split
  · rename_i h
    exact absurd (List.mem_of_getElem? h) hu
  · rfl
theorem pos_in {l : List Int} {u : Int} (h : 0 < posU l u) : u ∈ l ∧ posU l u ≤ l.length ∧ l[posU l u - 1]? = some u := by
  unfold posU at *
  split at h
  · rename_i e
    rw [if_pos e, Nat.add_sub_cancel]
    exact ⟨List.mem_of_getElem? e, (List.getElem?_eq_some_iff.1 e).1, e⟩
  · omega
theorem pos_pos {l : List Int} (h : asc l) {u : Int} (hu : u ∈ l) : 0 < posU l u := by
  obtain ⟨i, hi, e⟩ := List.mem_iff_getElem.1 hu
  rw [pos_at h (i := i) (by rw [List.getElem?_eq_getElem hi, e])]
  omega

def CovP (out : List (Int × Int)) (m : List Int) : Prop := (∀ p ∈ out, p.1 ≤ p.2) ∧ ∀ k, (∃ p ∈ out, p.1 ≤ k ∧ k ≤ p.2) ↔ k ∈ m
theorem stepG_cov {out : List (Int × Int)} {m : List Int} {x : Int} (h : CovP out m) : CovP (stepG out x) (m ++ [x]) := by
  obtain ⟨h1, h2⟩ := h
  rcases List.eq_nil_or_concat out with rfl | ⟨D, ⟨a, b⟩, rfl⟩
  · refine ⟨fun p hp => ?_, fun k => ?_⟩
    · simp [stepG] at hp
      subst hp
      exact Int.le_refl _
    · rw [List.mem_append, ← h2 k]
      simp [stepG]
      omega
  · rw [List.concat_eq_append] at *
    have hab : a ≤ b := h1 (a, b) (by simp)
    by_cases hb : b + 1 = x
    · have e : stepG (D ++ [(a, b)]) x = D ++ [(a, x)] := by
        unfold stepG
        rw [List.getLast?_append]
        simp [hb]
      rw [e]
      refine ⟨fun p hp => ?_, fun k => ?_⟩
      · rcases List.mem_append.1 hp with hp | hp
        · exact h1 p (List.mem_append_left _ hp)
        · simp at hp
          subst hp
          show a ≤ x
          omega
      · rw [List.mem_append, ← h2 k]
        constructor
        · rintro ⟨p, hp, hk⟩
          rcases List.mem_append.1 hp with hp | hp
          · exact .inl ⟨p, List.mem_append_left _ hp, hk⟩
          · simp at hp
            subst hp
            simp only at hk
            by_cases hkx : k = x
            · exact .inr (by simp [hkx])
            · exact .inl ⟨(a, b), by simp, hk.1, by show k ≤ b; omega⟩
        · rintro (⟨p, hp, hk⟩ | hk)
          · rcases List.mem_append.1 hp with hp | hp
            · exact ⟨p, List.mem_append_left _ hp, hk⟩
            · simp at hp
              subst hp
              simp only at hk
              exact ⟨(a, x), by simp, hk.1, by show k ≤ x; omega⟩
          · simp at hk
            exact ⟨(a, x), by simp, by show a ≤ k; omega, by show k ≤ x; omega⟩
    · have e : stepG (D ++ [(a, b)]) x = (D ++ [(a, b)]) ++ [(x, x)] := by
        unfold stepG
        rw [List.getLast?_append]
        simp [hb]
      rw [e]
      refine ⟨fun p hp => ?_, fun k => ?_⟩
      · rcases List.mem_append.1 hp with hp | hp
        · exact h1 p hp
        · simp at hp
          subst hp
          exact Int.le_refl _
      · rw [List.mem_append, ← h2 k]
        constructor
        · rintro ⟨p, hp, hk⟩
          rcases List.mem_append.1 hp with hp | hp
          · exact .inl ⟨p, hp, hk⟩
          · simp at hp
            subst hp
            simp only at hk
            exact .inr (by simp; omega)
        · rintro (⟨p, hp, hk⟩ | hk)
          · exact ⟨p, List.mem_append_left _ hp, hk⟩
          · simp at hk
            exact ⟨(x, x), by simp, by show x ≤ k; omega, by show k ≤ x; omega⟩
theorem foldG_cov : ∀ (l : List Int) (out : List (Int × Int)) (m : List Int), CovP out m → CovP (l.foldl stepG out) (m ++ l)
  | [], out, m, h => by rw [List.append_nil]; exact h
  | x :: l, out, m, h => by
    have := foldG_cov l _ _ (stepG_cov (x := x) h)
    rw [List.append_assoc] at this
    exact this
theorem grp_cov (l : List Int) : CovP (grp l) l := by
  have := foldG_cov l [] [] ⟨by simp, by simp⟩
  rwa [List.nil_append] at this
theorem grp_in {l : List Int} : ∀ p ∈ grp l, p.1 ∈ l ∧ p.2 ∈ l := foldG_in (S := fun y => y ∈ l) l [] (by simp) (fun _ h => h)

def rbP (p : Int × Int) : RB := (⟨p.1.toNat % 4294967296, by omega⟩, ⟨p.2.toNat % 4294967296, by omega⟩)
theorem rbP_enc {p : Int × Int} (h1 : 0 ≤ p.1 ∧ p.1 < 4294967296) (h2 : 0 ≤ p.2 ∧ p.2 < 4294967296) : encB (rbP p) = encP p := by
  unfold encB encR encP rbP RB.rng
  simp only
  congr 2
  · omega
  · congr 1
    congr 1
    omega
theorem rbP_flat {G : List (Int × Int)} (h : ∀ p ∈ G, (0 ≤ p.1 ∧ p.1 < 4294967296) ∧ (0 ≤ p.2 ∧ p.2 < 4294967296)) : (G.map rbP).flatMap encB = G.flatMap encP := by
  induction G with
  | nil => rfl
  | cons p G ih =>
    rw [List.map_cons, List.flatMap_cons, List.flatMap_cons, ih (fun q hq => h q (List.mem_cons_of_mem _ hq)), rbP_enc (h p (by simp)).1 (h p (by simp)).2]
theorem rbP_plain {p : Int × Int} {top : Nat} (ht : top < 4294967296) (h1 : 1 ≤ p.1) (h2 : p.1 ≤ p.2) (h3 : p.2 ≤ top) : (RB.rng (rbP p)).lo ≤ top ∧ (RB.rng (rbP p)).hi ≤ top ∧ plainR top (RB.rng (rbP p)) = ⟨p.1.toNat, p.2.toNat⟩ := by
  have e : RB.rng (rbP p) = ⟨p.1.toNat, p.2.toNat⟩ := by
    unfold RB.rng rbP
    simp only [Rng.mk.injEq]
    omega
  rw [e]
  refine ⟨by simp only; omega, by simp only; omega, ?_⟩
  unfold plainR realN
  simp only
  rw [if_neg (by omega), if_neg (by omega), Rng.mk.injEq]
  omega
/-- The identifiers of the set of some places are the identifiers that are in the view. -/
theorem uids_inv {vl so : List Int} (ha : asc vl) (hz : ∀ x ∈ vl, x ≠ 0) (hl : vl.length ≤ 1048576) :
    uidsOf vl (((grp (srtU (posL vl so))).map rbP).map RB.rng) = srtU (so.filter fun u => decide (0 < posU vl u)) ∧
    validB vl.length (((grp (srtU (posL vl so))).map rbP).map RB.rng) = decide (0 < (srtU (so.filter fun u => decide (0 < posU vl u))).length) := by
  obtain ⟨P, hP⟩ : ∃ P, srtU (posL vl so) = P := ⟨_, rfl⟩
  have hmem : ∀ k, k ∈ P ↔ ∃ u ∈ so, 0 < posU vl u ∧ ((posU vl u : Nat) : Int) = k := fun k => by
    rw [← hP, srtU_mem]
    unfold posL
    rw [List.mem_map]
    constructor
    · rintro ⟨⟨u, hu, rfl⟩, hne⟩
      exact ⟨u, hu, by omega, rfl⟩
    · rintro ⟨u, hu, h0, rfl⟩
      exact ⟨⟨u, hu, rfl⟩, by omega⟩
  have hbd : ∀ k ∈ P, 1 ≤ k ∧ k ≤ (vl.length : Int) := fun k hk => by
    obtain ⟨u, _, h0, rfl⟩ := (hmem k).1 hk
    have := (pos_in h0).2.1
    omega
  rw [hP]
  obtain ⟨hc1, hc2⟩ := grp_cov P
  have hpl : ∀ p ∈ grp P, (RB.rng (rbP p)).lo ≤ vl.length ∧ (RB.rng (rbP p)).hi ≤ vl.length ∧ plainR vl.length (RB.rng (rbP p)) = ⟨p.1.toNat, p.2.toNat⟩ := fun p hp => by
    have h1 := hbd _ (grp_in p hp).1
    have h2 := hbd _ (grp_in p hp).2
    exact rbP_plain (by omega) h1.1 (hc1 p hp) h2.2
  have hval : validB vl.length (((grp P).map rbP).map RB.rng) = decide (P ≠ []) := by
    by_cases hn : P = []
    · rw [decide_eq_false (by simpa using hn)]
      rw [hn]
      unfold validB
      simp [grp]
    · rw [decide_eq_true hn]
      have hg : grp P ≠ [] := fun e => hn (grp_nil_iff.1 e)
      obtain ⟨k, t, hkt⟩ := List.exists_cons_of_ne_nil hn
      have := hbd k (by rw [hkt]; simp)
      unfold validB
      rw [decide_eq_true (by omega : 0 < vl.length), Bool.true_and, Bool.and_eq_true]
      constructor
      · obtain ⟨p, q, hpq⟩ := List.exists_cons_of_ne_nil hg
        rw [hpq]; rfl
      · rw [List.all_eq_true]
        intro r hr
        rw [List.map_map, List.mem_map] at hr
        obtain ⟨p, hp, rfl⟩ := hr
        have := hpl p hp
        simp only [Function.comp]
        rw [decide_eq_true this.1, decide_eq_true this.2.1]
        rfl
  have hnum : ∀ n : Nat, n ∈ numsOf vl.length (((grp P).map rbP).map RB.rng) ↔ (n : Int) ∈ P := fun n => by
    unfold numsOf
    rw [hval]
    by_cases hn : P = []
    · rw [decide_eq_false (by simpa using hn), if_neg Bool.false_ne_true, hn]
      simp
    · rw [decide_eq_true hn, if_pos rfl, List.mem_filter, nums_mem, anyR_map, List.any_eq_true]
      rw [← hc2]
      constructor
      · rintro ⟨_, r, hr, hi⟩
        rw [List.map_map, List.mem_map] at hr
        obtain ⟨p, hp, rfl⟩ := hr
        refine ⟨p, hp, ?_⟩
        have h1 := hbd _ (grp_in p hp).1
        simp only [Function.comp] at hi
        rw [(hpl p hp).2.2] at hi
        unfold inR at hi
        simp only [Bool.and_eq_true, decide_eq_true_eq] at hi
        omega
      · rintro ⟨p, hp, h1, h2⟩
        have h3 := hbd _ (grp_in p hp).1
        have h4 := hbd _ (grp_in p hp).2
        refine ⟨by omega, RB.rng (rbP p), by rw [List.map_map, List.mem_map]; exact ⟨p, hp, rfl⟩, ?_⟩
        rw [(hpl p hp).2.2]
        unfold inR
        simp only [Bool.and_eq_true, decide_eq_true_eq]
        omega
  have hset : ∀ x, x ∈ uidsOf vl (((grp P).map rbP).map RB.rng) ↔ x ∈ so ∧ 0 < posU vl x := fun x => by
    rw [uidsOf_mem]
    constructor
    · rintro ⟨n, hn, e⟩
      obtain ⟨u, hu, h0, h1⟩ := (hmem _).1 ((hnum n).1 hn)
      obtain ⟨_, h2, h3⟩ := pos_in h0
      have hnu : n = posU vl u := by omega
      subst hnu
      obtain ⟨h4, h5⟩ := List.getElem?_eq_some_iff.1 h3
      rw [getElem!_pos vl (posU vl u - 1) h4, h5] at e
      subst e
      exact ⟨hu, h0⟩
    · rintro ⟨hx, h0⟩
      obtain ⟨_, h2, h3⟩ := pos_in h0
      obtain ⟨h4, h5⟩ := List.getElem?_eq_some_iff.1 h3
      refine ⟨posU vl x, (hnum _).2 ((hmem _).2 ⟨x, hx, h0, rfl⟩), ?_⟩
      rw [getElem!_pos vl (posU vl x - 1) h4, h5]
  have hmf : ∀ x, x ∈ srtU (so.filter fun u => decide (0 < posU vl u)) ↔ x ∈ so ∧ 0 < posU vl x := fun x => by
    rw [srtU_mem, List.mem_filter, decide_eq_true_eq]
    constructor
    · exact fun h => h.1
    · exact fun h => ⟨h, hz x (pos_in h.2).1⟩
  refine ⟨asc_ext (uidsOf_asc ha _) (srtU_asc _) fun x => by rw [hset, hmf], ?_⟩
  rw [hval]
  rw [decide_eq_decide]
  constructor
  · intro hn
    obtain ⟨k, t, hkt⟩ := List.exists_cons_of_ne_nil hn
    obtain ⟨u, hu, h0, _⟩ := (hmem k).1 (by rw [hkt]; simp)
    exact List.length_pos_of_mem ((hmf u).2 ⟨hu, h0⟩)
  · intro hpos hn
    obtain ⟨x, hx⟩ := List.exists_mem_of_length_pos hpos
    obtain ⟨h1, h2⟩ := (hmf x).1 hx
    have := (hmem _).2 ⟨x, h1, h2, rfl⟩
    rw [hn] at this
    simp at this
end Go.Proofs.YtlfpefebocepfaaGreat
