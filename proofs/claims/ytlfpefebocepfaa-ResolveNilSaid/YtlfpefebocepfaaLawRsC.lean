/- ResolveJoins: the law's own walk. -/
import Derived.Test.YtlfpefebocepfaaLawRsB
import Derived.Test.YtlfpefebocepfaaConc
set_option linter.unusedVariables false
set_option linter.unusedSimpArgs false
namespace Go.Proofs.Ytlfpefebocepfaa
open Go Go.RowKit Go.Shelf Go.Lib Go.Sort

theorem numsOf_asc (top : Nat) (l : List Rng) : (numsOf top l).Pairwise fun a b => a < b := by
  unfold numsOf
  split
  · exact List.Pairwise.filter _ (by unfold nums; exact List.pairwise_lt_range')
  · exact List.Pairwise.nil
theorem uidsOf_mem {vl : List Int} {l : List Rng} {x : Int} : x ∈ uidsOf vl l ↔ ∃ n, n ∈ numsOf vl.length l ∧ vl[n - 1]! = x := by
  unfold uidsOf
  rw [List.mem_map]
theorem uidsOf_in {vl : List Int} {l : List Rng} {x : Int} (h : x ∈ uidsOf vl l) : x ∈ vl := by
  obtain ⟨n, hn, rfl⟩ := uidsOf_mem.1 h
  obtain ⟨h1, h2⟩ := numsOf_mem hn
  rw [getElem!_pos vl (n - 1) (by omega)]
  exact List.getElem_mem _
theorem uidsOf_asc {vl : List Int} (h : asc vl) (l : List Rng) : asc (uidsOf vl l) := by
  unfold uidsOf asc
  rw [List.pairwise_map]
  refine (numsOf_asc vl.length l).imp_of_mem fun {n m} hn hm hlt => ?_
  obtain ⟨h1, h2⟩ := numsOf_mem hn
  obtain ⟨h3, h4⟩ := numsOf_mem hm
  rw [getElem!_pos vl (n - 1) (by omega), getElem!_pos vl (m - 1) (by omega)]
  exact List.pairwise_iff_getElem.1 h (n - 1) (m - 1) (by omega) (by omega) (by omega)
theorem valid_app {top : Nat} {a b : List Rng} (ha : validB top a = true) (hb : validB top b = true) : validB top (a ++ b) = true := by
  unfold validB at *
  simp only [Bool.and_eq_true, decide_eq_true_eq, List.all_eq_true, Bool.not_eq_true'] at *
  obtain ⟨⟨h1, h2⟩, h3⟩ := ha
  refine ⟨⟨h1, ?_⟩, fun r hr => ?_⟩
  · cases a with
    | nil => simp at h2
    | cons x t => rfl
  · rcases List.mem_append.1 hr with hr | hr
    · exact h3 r hr
    · exact hb.2 r hr
theorem numsOf_app {top n : Nat} {a b : List Rng} (ha : validB top a = true) (hb : validB top b = true) : n ∈ numsOf top (a ++ b) ↔ n ∈ numsOf top a ∨ n ∈ numsOf top b := by
  unfold numsOf
  rw [ha, hb, valid_app ha hb, if_pos rfl, if_pos rfl, if_pos rfl, List.mem_filter, List.mem_filter, List.mem_filter, anyR_map, anyR_map, anyR_map, List.any_append, Bool.or_eq_true]
  constructor
  · rintro ⟨h, h1 | h1⟩
    · exact .inl ⟨h, h1⟩
    · exact .inr ⟨h, h1⟩
  · rintro (⟨h, h1⟩ | ⟨h, h1⟩)
    · exact ⟨h, .inl h1⟩
    · exact ⟨h, .inr h1⟩
theorem uids_joins {us : List Int} {a b : List Rng} (ha : validB (srtU us).length a = true) (hb : validB (srtU us).length b = true) : uidsOf (srtU us) (a ++ b) = srtU (uidsOf (srtU us) a ++ uidsOf (srtU us) b) := by
  refine asc_ext (uidsOf_asc (srtU_asc us) _) (srtU_asc _) fun x => ?_
  rw [srtU_mem, List.mem_append]
  constructor
  · intro h
    refine ⟨?_, (srtU_mem.1 (uidsOf_in h)).2⟩
    obtain ⟨n, hn, e⟩ := uidsOf_mem.1 h
    rcases (numsOf_app ha hb).1 hn with hn | hn
    · exact .inl (uidsOf_mem.2 ⟨n, hn, e⟩)
    · exact .inr (uidsOf_mem.2 ⟨n, hn, e⟩)
  · rintro ⟨h | h, _⟩
    · obtain ⟨n, hn, e⟩ := uidsOf_mem.1 h
      exact uidsOf_mem.2 ⟨n, (numsOf_app ha hb).2 (.inl hn), e⟩
    · obtain ⟨n, hn, e⟩ := uidsOf_mem.1 h
      exact uidsOf_mem.2 ⟨n, (numsOf_app ha hb).2 (.inr hn), e⟩
theorem uidsOf_len (vl : List Int) (l : List Rng) : (uidsOf vl l).length ≤ vl.length := by
  unfold uidsOf
  rw [List.length_map]
  exact numsOf_len _ _

set_option maxRecDepth 100000 in
set_option maxHeartbeats 6400000 in
theorem resolveJoins_walk (us : List Int) (a b : List RB) (vu va vb : Value) (w : World) (hU : U32 w w.heap.size vu us) (hA : RgL w w.heap.size va (a.map RB.rng)) (hB : RgL w w.heap.size vb (b.map RB.rng)) (h0 : ∀ x ∈ us, 0 ≤ x) :
    Calls Try.prog 5 #[vu, va, vb] w fun e w' => e = .returned (.bool true) ∧ Below w.heap.size w w' := by
  have HF1 := Lib.hid (few_any vu va us (a.map RB.rng) w hU hA)
  have HF2 := Lib.hid (few_any vu vb us (b.map RB.rng) w hU hB)
  cases hf : (decide (us.length ≤ 60) && decide ((a.map RB.rng).length ≤ 40)) with
  | false =>
    rw [hf] at HF1
    have HL := Lib.hid (alive_any w)
    clear hf hU hA hB h0
    go_enter Try.func5, Try.ntmps5
    go_wp2_with fail
    refine HF1.out.mono ?_
    rintro e w' ⟨rfl, rfl⟩
    go_wp2_with fail
    refine HL.out.mono ?_
    rintro e w2 ⟨rfl, hb⟩
    have HB := Lib.hid hb
    clear hb
    go_wp2_with fail
    go_ret
    exact ⟨rfl, HB.out⟩
  | true =>
  cases hg : (decide (us.length ≤ 60) && decide ((b.map RB.rng).length ≤ 40)) with
  | false =>
    rw [hf] at HF1
    rw [hg] at HF2
    have HL := Lib.hid (alive_any w)
    clear hf hg hU hA hB h0
    go_enter Try.func5, Try.ntmps5
    go_wp2_with fail
    refine HF1.out.mono ?_
    rintro e w' ⟨rfl, rfl⟩
    go_wp2_with fail
    refine HF2.out.mono ?_
    rintro e w' ⟨rfl, rfl⟩
    go_wp2_with fail
    refine HL.out.mono ?_
    rintro e w2 ⟨rfl, hb⟩
    have HB := Lib.hid hb
    clear hb
    go_wp2_with fail
    go_ret
    exact ⟨rfl, HB.out⟩
  | true =>
    rw [hf] at HF1
    rw [hg] at HF2
    rw [Bool.and_eq_true, decide_eq_true_eq, decide_eq_true_eq, List.length_map] at hf hg
    obtain ⟨hu, hla⟩ := hf
    obtain ⟨-, hlb⟩ := hg
    obtain ⟨Au, cu, rfl, -, -⟩ := id hU
    obtain ⟨Aa, ca, rfl, -, -⟩ := id hA
    obtain ⟨Ab, cb, rfl, -, -⟩ := id hB
    have hsl : (srtU us).length ≤ 60 := Nat.le_trans (srtU_len us) hu
    have HN := Lib.hid (vnew_any us Au cu w hU (by omega) h0)
    obtain ⟨na, hna⟩ : ∃ n, (a.map RB.rng).length = n := ⟨_, rfl⟩
    obtain ⟨nb, hnb⟩ : ∃ n, (b.map RB.rng).length = n := ⟨_, rfl⟩
    rw [hna] at hA HF1 ⊢
    rw [hnb] at hB HF2 ⊢
    have HI := Lib.hid (And.intro hA (And.intro hB (And.intro hla (And.intro hlb hsl))))
    clear hU hA hB h0 hu hla hlb hsl hna hnb
    generalize us.length = n at HF1 HF2 HN ⊢
    go_enter Try.func5, Try.ntmps5
    go_wp2_with fail
    refine HF1.out.mono ?_
    rintro e w' ⟨rfl, rfl⟩
    go_wp2_with fail
    refine HF2.out.mono ?_
    rintro e w' ⟨rfl, rfl⟩
    go_wp2_with fail
    refine HN.out.mono ?_
    rintro e w1 ⟨p, rfl, hV1, hb1⟩
    have HX := Lib.hid (uids_any p (srtU us) a (.slice Aa na ca) w1 hV1 ((HI.out.1.below hb1 (Nat.le_refl _)).mono hb1.size) (by have := HI.out.2.2.2.2; omega) (by have := HI.out.2.2.1; omega))
    obtain ⟨oka, hoka⟩ : ∃ ok, validB (srtU us).length (a.map RB.rng) = ok := ⟨_, rfl⟩
    rw [hoka] at HX
    have HOA := Lib.hid hoka
    have H1 := Lib.hid (And.intro hV1 hb1)
    clear hV1 hb1 hoka
    go_wp2_with fail
    refine HX.out.mono ?_
    rintro e w2 ⟨v2, rfl, hB2, hb2⟩
    have hb02 := below_chain H1.out.2 hb2
    have HY := Lib.hid (uids_any p (srtU us) b (.slice Ab nb cb) w2 ((H1.out.1.below hb2 (Nat.le_refl _)).mono hb2.size) ((HI.out.2.1.below hb02 (Nat.le_refl _)).mono hb02.size) (by have := HI.out.2.2.2.2; omega) (by have := HI.out.2.2.2.1; omega))
    obtain ⟨okb, hokb⟩ : ∃ ok, validB (srtU us).length (b.map RB.rng) = ok := ⟨_, rfl⟩
    rw [hokb] at HY
    have HOB := Lib.hid hokb
    obtain ⟨Ax, cx, rfl, -, -⟩ := id (Rd1.of_buf hB2)
    obtain ⟨nx, hnx⟩ : ∃ n, ((uidsOf (srtU us) (a.map RB.rng)).map (Value.int .u32)).length = n := ⟨_, rfl⟩
    rw [hnx] at hB2 ⊢
    have H2 := Lib.hid (And.intro (Rd1.of_buf hB2) (And.intro hb2 hb02))
    clear hB2 hb2 hb02 hokb hnx
    go_wp2_with fail
    refine HY.out.mono ?_
    rintro e w3 ⟨v3, rfl, hB3, hb3⟩
    obtain ⟨Ay, cy, rfl, -, -⟩ := id (Rd1.of_buf hB3)
    obtain ⟨ny, hny⟩ : ∃ n, ((uidsOf (srtU us) (b.map RB.rng)).map (Value.int .u32)).length = n := ⟨_, rfl⟩
    rw [hny] at hB3 ⊢
    have hb03 := below_chain H2.out.2.2 hb3
    have hb13 := below_chain H2.out.2.1 hb3
    have H3 := Lib.hid (And.intro (Rd1.of_buf hB3) (And.intro hb3 (And.intro hb03 hb13)))
    clear hB3 hb3 hb03 hb13 hny
    have HL := Lib.hid (alive_any w3)
    by_cases hok : oka = true ∧ okb = true
    · obtain ⟨rfl, rfl⟩ := hok
      obtain ⟨hma, hsa⟩ := SrcLo.of_rg HI.out.1
      obtain ⟨hmb, hsb⟩ := SrcLo.of_rg HI.out.2.1
      have HC := Lib.hid (concatR_two w3 Aa Ab ca cb na nb a b ((hsa.below H3.out.2.2.1 (Nat.le_refl _)).more H3.out.2.2.1.size) ((hsb.below H3.out.2.2.1 (Nat.le_refl _)).more H3.out.2.2.1.size) hma hmb (by have := HI.out.2.2.1; have := HI.out.2.2.2.1; omega))
      clear hma hmb hsa hsb
      go_wp2_with fail
      refine HC.out.mono ?_
      rintro e w4 ⟨v4, rfl, hB4, hb4⟩
      have hb14 := below_chain H3.out.2.2.2 hb4
      have HU := Lib.hid (uids_any p (srtU us) (a ++ b) v4 w4 ((H1.out.1.below hb14 (Nat.le_refl _)).mono hb14.size) (RgL.of_buf hB4) (by have := HI.out.2.2.2.2; omega) (by rw [List.length_append]; have := HI.out.2.2.1; have := HI.out.2.2.2.1; omega))
      rw [List.map_append, valid_app HOA.out HOB.out, uids_joins HOA.out HOB.out] at HU
      have H4 := Lib.hid hb4
      clear hB4 hb4 hb14
      go_wp2_with fail
      refine HU.out.mono ?_
      rintro e w5 ⟨v5, rfl, hB5, hb5⟩
      have HL5 := Lib.hid (alive_any w5)
      have H5 := Lib.hid (And.intro (Rd1.of_buf hB5) (below_chain H4.out hb5))
      clear hB5 hb5
      go_wp2_with fail
      refine HL5.out.mono ?_
      rintro e w6 ⟨rfl, hb6⟩
      have hb36 := below_chain H5.out.2 hb6
      have hb26 := below_chain H3.out.2.1 hb36
      obtain ⟨hmx, hsx⟩ := SrcLo.of_rd H2.out.1
      obtain ⟨hmy, hsy⟩ := SrcLo.of_rd H3.out.1
      have hl1 := uidsOf_len (srtU us) (a.map RB.rng)
      have hl2 := uidsOf_len (srtU us) (b.map RB.rng)
      have HD := Lib.hid (concatU_two w6 Ax Ay cx cy nx ny _ _ ((hsx.below hb26 (Nat.le_refl _)).more hb26.size) ((hsy.below hb36 (Nat.le_refl _)).more hb36.size) hmx hmy (by have := HI.out.2.2.2.2; omega))
      have hl12 : (uidsOf (srtU us) (a.map RB.rng) ++ uidsOf (srtU us) (b.map RB.rng)).length ≤ 120 := by rw [List.length_append]; have := HI.out.2.2.2.2; omega
      have H6 := Lib.hid (And.intro hb6 (And.intro (below_chain H3.out.2.2.1 hb36) hl12))
      clear hmx hsx hmy hsy hl1 hl2 hl12 hb6 hb36 hb26
      go_wp2_with fail
      refine HD.out.mono ?_
      rintro e w7 ⟨v7, rfl, hB7, hb7⟩
      rw [enc1_map] at hB7
      have HS := Lib.hid (ref_sorted _ v7 w7 (U32.of_buf hB7) (by have := H6.out.2.2; omega))
      have H7 := Lib.hid (And.intro (below_chain H6.out.1 hb7) (below_chain H6.out.2.1 hb7))
      clear hB7 hb7
      go_wp2_with fail
      refine HS.out.mono ?_
      rintro e w8 ⟨v8, rfl, hB8, hb8⟩
      have hb58 := below_chain H7.out.1 hb8
      have hl8 := Nat.le_trans (srtU_len (uidsOf (srtU us) (a.map RB.rng) ++ uidsOf (srtU us) (b.map RB.rng))) H6.out.2.2
      have HE := Lib.hid (eq_u32 (W := w8) (H5.out.1.below hb58 (Nat.le_refl _)) (Rd1.of_buf hB8) (Nat.le_trans hl8 (by omega)) (Nat.le_trans hl8 (by omega)))
      rw [decide_eq_true rfl] at HE
      have H8 := Lib.hid (below_chain H7.out.2 hb8)
      clear hB8 hb8 hb58 hl8
      go_wp2_with fail
      refine HE.out.mono ?_
      rintro e w9 ⟨rfl, q, rfl⟩
      go_wp2_with fail
      go_ret
      exact ⟨rfl, H8.out.trans (below_drewN _ _)⟩
    · cases oka <;> cases okb <;> first
      | exact absurd ⟨rfl, rfl⟩ hok
      | (clear hok
         go_wp2_with fail
         refine HL.out.mono ?_
         rintro e w4 ⟨rfl, hb4⟩
         have H4 := Lib.hid (below_chain H3.out.2.2.1 hb4)
         clear hb4
         go_wp2_with fail
         go_ret
         exact ⟨rfl, H4.out⟩)
end Go.Proofs.Ytlfpefebocepfaa
