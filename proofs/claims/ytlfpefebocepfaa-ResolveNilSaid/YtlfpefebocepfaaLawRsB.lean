/- ResolveStar: the law's own walk. -/
import Derived.Test.YtlfpefebocepfaaLawRsA
set_option linter.unusedVariables false
set_option linter.unusedSimpArgs false
namespace Go.Proofs.Ytlfpefebocepfaa
open Go Go.RowKit Go.Shelf Go.Lib Go.Sort

theorem plain_star (n : Nat) : plainR n ⟨0, 0⟩ = ⟨n, n⟩ := by
  unfold plainR realN
  simp
theorem plain_all (n : Nat) (hn : 0 < n) : plainR n ⟨1, 0⟩ = ⟨1, n⟩ := by
  unfold plainR realN
  simp
  omega
theorem valid_star (n : Nat) : validB n [⟨0, 0⟩] = decide (0 < n) := by
  unfold validB; simp
theorem valid_all (n : Nat) : validB n [⟨1, 0⟩] = decide (0 < n) := by
  unfold validB
  by_cases h : 0 < n
  · rw [decide_eq_true h]; simp; omega
  · rw [decide_eq_false h]; simp
theorem valid_more (n : Nat) : validB n [⟨n + 1, 1⟩] = false := by
  unfold validB
  simp
  intro _ h
  omega
theorem uids_star (vl : List Int) : uidsOf vl [⟨0, 0⟩] = vl.drop (vl.length - 1) := by
  unfold uidsOf numsOf
  rw [valid_star]
  rcases Nat.eq_zero_or_pos vl.length with h | h
  · rw [decide_eq_false (by omega), if_neg Bool.false_ne_true, List.eq_nil_of_length_eq_zero h]
    rfl
  · rw [decide_eq_true h, if_pos rfl]
    simp only [List.map_cons, List.map_nil, plain_star]
    obtain ⟨k, hk⟩ : ∃ k, vl.length = k + 1 := ⟨vl.length - 1, by omega⟩
    have e : (nums 1 vl.length).filter (fun n => anyR n [⟨vl.length, vl.length⟩]) = [vl.length] := by
      rw [hk, nums_snoc (by omega), List.filter_append]
      have h1 : (nums 1 k).filter (fun n => anyR n [⟨k + 1, k + 1⟩]) = [] := filter_none (fun n _ h2 => by unfold anyR inR; simp; omega)
      rw [h1, List.nil_append]
      simp [anyR, inR]
    rw [e, hk, Nat.add_sub_cancel, List.drop_eq_getElem_cons (by omega), List.drop_of_length_le (by omega)]
    simp only [List.map_cons, List.map_nil, Nat.add_sub_cancel]
    rw [getElem!_pos vl k (by omega)]
theorem nums_map (vl : List Int) : (nums 1 vl.length).map (fun n => vl[n - 1]!) = vl := by
  apply List.ext_getElem
  · rw [List.length_map, nums_len]; omega
  · intro i h1 h2
    rw [List.getElem_map]
    unfold nums
    rw [List.getElem_range', getElem!_pos vl (1 + 1 * i - 1) (by omega)]
    congr 1
    omega
theorem uids_all (vl : List Int) : uidsOf vl [⟨1, 0⟩] = vl := by
  unfold uidsOf numsOf
  rw [valid_all]
  rcases Nat.eq_zero_or_pos vl.length with h | h
  · rw [decide_eq_false (by omega), if_neg Bool.false_ne_true, List.eq_nil_of_length_eq_zero h]
    rfl
  · rw [decide_eq_true h, if_pos rfl]
    simp only [List.map_cons, List.map_nil, plain_all _ h]
    rw [filter_full (fun n h1 h2 => by unfold anyR inR; simp; omega)]
    exact nums_map vl

theorem B32.rd {w : World} {base : Nat} {v : Value} {l : List Int} (h : B32 w base v l) : Rd1 w w.heap.size v (l.map (Value.int .u32)) := Rd1.of_buf h
/-- A list in memory, cut at a place. -/
theorem rd_drop {W : World} {B g o n cap k c : Nat} {xs : List Int} (h : Rd1 W B (.slice (some ⟨g, o, none⟩) n cap) (xs.map (Value.int .u32))) (hk : k ≤ xs.length) (hc : n - k ≤ c) : Rd1 W B (.slice (some ⟨g, o + k, none⟩) (n - k) c) ((xs.drop k).map (Value.int .u32)) := by
  obtain ⟨A, cap', e, h1, h2⟩ := h
  injection e with e1 e2 e3
  rw [List.length_map] at e2 h1 h2
  subst e1
  refine ⟨_, c, by rw [List.length_map, List.length_drop, e2], by rw [List.length_map, List.length_drop]; omega, fun h0 => ?_⟩
  rw [List.length_map, List.length_drop] at h0
  obtain ⟨b, o', e4, h3, h4⟩ := h2 (by omega)
  injection e4 with e4
  injection e4 with e5 e6 _
  subst e5 e6
  refine ⟨g, o + k, rfl, h3, fun j u hj => ?_⟩
  rw [Nat.add_assoc]
  refine h4 (k + j) u ?_
  rw [List.map_drop, List.getElem?_drop] at hj
  exact hj

set_option maxRecDepth 100000 in
set_option maxHeartbeats 6400000 in
theorem resolveStar_walk (us : List Int) (vu : Value) (w : World) (hU : U32 w w.heap.size vu us) (h0 : ∀ x ∈ us, 0 ≤ x) :
    Calls Try.prog 4 #[vu] w fun e w' => e = .returned (.bool true) ∧ Below w.heap.size w w' := by
  have hRn : RgL w w.heap.size (.slice none 0 0) [] := ⟨none, 0, rfl, Nat.le_refl _, fun h => absurd h (by simp)⟩
  have HF := Lib.hid (few_any vu (.slice none 0 0) us [] w hU hRn)
  clear hRn
  cases hf : (decide (us.length ≤ 60) && decide (([] : List Rng).length ≤ 40)) with
  | false =>
    rw [hf] at HF
    have HA := Lib.hid (alive_any w)
    clear hf hU h0
    go_enter Try.func4, Try.ntmps4
    go_wp2_with fail
    refine HF.out.mono ?_
    rintro e w' ⟨rfl, rfl⟩
    go_wp2_with fail
    refine HA.out.mono ?_
    rintro e w2 ⟨rfl, hb⟩
    have HB := Lib.hid hb
    clear hb
    go_wp2_with fail
    go_ret
    exact ⟨rfl, HB.out⟩
  | true =>
    rw [hf] at HF
    rw [Bool.and_eq_true, decide_eq_true_eq, decide_eq_true_eq] at hf
    obtain ⟨hu, -⟩ := hf
    obtain ⟨Au, cu, rfl, -, -⟩ := id hU
    have hsl : (srtU us).length ≤ 60 := Nat.le_trans (srtU_len us) hu
    obtain ⟨m, hm⟩ : ∃ m, (srtU us).length = m := ⟨_, rfl⟩
    rw [hm] at hsl
    have HNW := Lib.hid (fun W (hb : Below w.heap.size w W) => vnew_any us Au cu W ((hU.below hb (Nat.le_refl _)).mono hb.size) (by omega) h0)
    have HMW := Lib.hid (rnew_any us _ w hU (by omega))
    have HI := Lib.hid (And.intro hU (And.intro h0 (And.intro hu hm)))
    clear hU h0 hu hm
    have hmI : (m : Int) ≤ 60 := by omega
    generalize hnn : us.length = n at HF HNW HMW ⊢
    have HNN := Lib.hid hnn
    clear hnn
    have hwm : IntKind.u32.wrap (m : Int) = m := by simp [IntKind.wrap, IntKind.bits, IntKind.signed]; omega
    have hwm1 : IntKind.u32.wrap ((m : Int) + 1) = (m : Int) + 1 := by simp [IntKind.wrap, IntKind.bits, IntKind.signed]; omega
    go_enter Try.func4, Try.ntmps4
    go_wp2_with fail
    refine HF.out.mono ?_
    rintro e w' ⟨rfl, rfl⟩
    go_wp2_with fail
    refine HMW.out.mono ?_
    rintro e w1 ⟨vw, rfl, hW1, hb1⟩
    have HN1 := Lib.hid (HNW.out w1 hb1)
    have H1 := Lib.hid (And.intro hW1 hb1)
    have hshape := hW1.shape
    rw [HI.out.2.2.2] at hshape
    clear hW1 hb1
    rcases hshape with ⟨rfl, hnil⟩ | ⟨g, off, cp, rfl, -, -, hncp, -, -⟩
    · have hm0 : m = 0 := by have := HI.out.2.2.2; rw [hnil] at this; exact this.symm
      subst hm0
      clear hnil
      go_wp2_with fail
      refine HN1.out.mono ?_
      rintro e w2 ⟨p2, rfl, hV2, hb2⟩
      have hc2 : Below w2.heap.size w2 (w2.alloc (.cells #[.int .u32 0, .int .u32 0] 40)) := (Below.refl _ w2).alloc (Nat.le_refl _) _
      have HU2 := Lib.hid (uids_any p2 (srtU us) [(0, 0)] (.slice (some ⟨w2.heap.size, 0, none⟩) 1 1) (w2.alloc (.cells #[.int .u32 0, .int .u32 0] 40)) ((hV2.below hc2 (Nat.le_refl _)).mono hc2.size) ((rg_one w2 40 (0, 0)).mono (by rw [World.size_alloc]; exact Nat.le_refl _)) (by have := HI.out.2.2.2; omega) (by decide))
      rw [show ([((0, 0) : RB)].map RB.rng) = [⟨0, 0⟩] from rfl, valid_star, uids_star, HI.out.2.2.2, decide_eq_false (by omega : ¬ 0 < 0)] at HU2
      have H2 := Lib.hid (below_chain (below_chain H1.out.2 hb2) hc2)
      have H2b := Lib.hid (below_chain hb2 hc2)
      clear hV2 hb2 hc2
      go_wp2_with fail
      refine HU2.out.mono ?_
      rintro e w3 ⟨v3, rfl, hB3, hb3⟩
      have hb03 := below_chain H2.out hb3
      have HN3 := Lib.hid (HNW.out w3 hb03)
      have H3 := Lib.hid (And.intro hB3 (And.intro hb03 (below_chain H2b.out hb3)))
      clear hB3 hb3 hb03
      go_wp2_with fail
      refine HN3.out.mono ?_
      rintro e w4 ⟨p4, rfl, hV4, hb4⟩
      have hc4 : Below w4.heap.size w4 (w4.alloc (.cells #[.int .u32 1, .int .u32 0] 40)) := (Below.refl _ w4).alloc (Nat.le_refl _) _
      have HU4 := Lib.hid (uids_any p4 (srtU us) [(1, 0)] (.slice (some ⟨w4.heap.size, 0, none⟩) 1 1) (w4.alloc (.cells #[.int .u32 1, .int .u32 0] 40)) ((hV4.below hc4 (Nat.le_refl _)).mono hc4.size) ((rg_one w4 40 (1, 0)).mono (by rw [World.size_alloc]; exact Nat.le_refl _)) (by have := HI.out.2.2.2; omega) (by decide))
      rw [show ([((1, 0) : RB)].map RB.rng) = [⟨1, 0⟩] from rfl, valid_all, uids_all, HI.out.2.2.2, decide_eq_false (by omega : ¬ 0 < 0)] at HU4
      have H4 := Lib.hid (And.intro (below_chain H3.out.2.1 (below_chain hb4 hc4)) (below_chain hb4 hc4))
      clear hV4 hb4 hc4
      go_wp2_with fail
      refine HU4.out.mono ?_
      rintro e w5 ⟨v5, rfl, hB5, hb5⟩
      have hb05 := below_chain H4.out.1 hb5
      have HN5 := Lib.hid (HNW.out w5 hb05)
      have H5 := Lib.hid (And.intro hB5 (And.intro hb05 (below_chain H4.out.2 hb5)))
      clear hB5 hb5 hb05
      go_wp2_with fail
      refine HN5.out.mono ?_
      rintro e w6 ⟨p6, rfl, hV6, hb6⟩
      have hc6 : Below w6.heap.size w6 (w6.alloc (.cells #[.int .u32 1, .int .u32 1] 40)) := (Below.refl _ w6).alloc (Nat.le_refl _) _
      obtain ⟨lx, hlx⟩ : ∃ lx : List RB, lx = [(1, 1)] := ⟨_, rfl⟩
      have hlr : lx.map RB.rng = [⟨0 + 1, 1⟩] := by rw [hlx]; rfl
      have hrg : RgL (w6.alloc (.cells #[.int .u32 1, .int .u32 1] 40)) (w6.heap.size + 1) (.slice (some ⟨w6.heap.size, 0, none⟩) 1 1) (lx.map RB.rng) := by
        rw [hlx]
        exact rg_one w6 40 (1, 1)
      have HU6 := Lib.hid (seqs_any p6 (srtU us) lx (.slice (some ⟨w6.heap.size, 0, none⟩) 1 1) (w6.alloc (.cells #[.int .u32 1, .int .u32 1] 40)) ((hV6.below hc6 (Nat.le_refl _)).mono hc6.size) (hrg.mono (by rw [World.size_alloc]; exact Nat.le_refl _)) (by have := HI.out.2.2.2; omega) (by rw [hlx]; simp))
      rw [hlr, HI.out.2.2.2, valid_more] at HU6
      have H6 := Lib.hid (And.intro (below_chain H5.out.2.1 (below_chain hb6 hc6)) (below_chain hb6 hc6))
      clear hV6 hb6 hc6 hrg hlx hlr
      go_wp2_with fail
      refine HU6.out.mono ?_
      rintro e w7 ⟨v7, rfl, hB7, hb7⟩
      have HA := Lib.hid (alive_any w7)
      have H7 := Lib.hid (And.intro (below_chain H6.out.1 hb7) (below_chain H6.out.2 hb7))
      clear hB7 hb7
      go_wp2_with fail
      refine HA.out.mono ?_
      rintro e w8 ⟨rfl, hb8⟩
      have hb08 := below_chain H7.out.1 hb8
      have hb58 := below_chain H7.out.2 hb8
      have hb38 := below_chain H5.out.2.2 hb58
      have hb18 := below_chain H3.out.2.2 hb38
      have hsl1 : (srtU us).length ≤ 1048576 := by have := HI.out.2.2.2; omega
      have hdl : ((srtU us).drop (0 - 1)).length ≤ 1048576 := by rw [List.length_drop]; omega
      have hrd : Rd1 w8 0 (.slice none 0 0) (((srtU us).drop (0 - 1)).map (Value.int .u32)) := by
        rw [List.eq_nil_of_length_eq_zero HI.out.2.2.2]
        exact ⟨none, 0, rfl, Nat.le_refl _, fun h => absurd h (by simp)⟩
      have HE := Lib.hid (eq_u32 (xs := (srtU us).drop (0 - 1)) (ys := (srtU us).drop (0 - 1)) (W := w8) (H3.out.1.rd.below hb38 (Nat.le_refl _)) hrd hdl hdl)
      rw [decide_eq_true rfl] at HE
      have HG := Lib.hid (fun q => eq_u32 (xs := srtU us) (ys := srtU us) (W := w8.drewN q) (H5.out.1.rd.below (hb58.trans (below_drewN w8 q)) (Nat.le_refl _)) (H1.out.1.rd.below (hb18.trans (below_drewN w8 q)) (Nat.le_refl _)) hsl1 hsl1)
      simp only [decide_true] at HG
      have H8 := Lib.hid hb08
      clear hb8 hb58 hb38 hb18 hsl1 hdl hrd hb08
      go_wp2_with fail
      refine HE.out.mono ?_
      rintro e w9 ⟨rfl, q, rfl⟩
      go_wp2_with fail
      refine (HG.out q).mono ?_
      rintro e wx ⟨rfl, q2, rfl⟩
      go_wp2_with fail
      go_ret
      exact ⟨rfl, H8.out.trans (below_drewN _ _)⟩
    · rcases Nat.eq_zero_or_pos m with hm0 | hm0
      · subst hm0
        rcases Nat.eq_zero_or_pos cp with hcp | hcp
        · subst hcp
          go_wp2_with fail
          refine HN1.out.mono ?_
          rintro e w2 ⟨p2, rfl, hV2, hb2⟩
          have hc2 : Below w2.heap.size w2 (w2.alloc (.cells #[.int .u32 0, .int .u32 0] 40)) := (Below.refl _ w2).alloc (Nat.le_refl _) _
          have HU2 := Lib.hid (uids_any p2 (srtU us) [(0, 0)] (.slice (some ⟨w2.heap.size, 0, none⟩) 1 1) (w2.alloc (.cells #[.int .u32 0, .int .u32 0] 40)) ((hV2.below hc2 (Nat.le_refl _)).mono hc2.size) ((rg_one w2 40 (0, 0)).mono (by rw [World.size_alloc]; exact Nat.le_refl _)) (by have := HI.out.2.2.2; omega) (by decide))
          rw [show ([((0, 0) : RB)].map RB.rng) = [⟨0, 0⟩] from rfl, valid_star, uids_star, HI.out.2.2.2, decide_eq_false (by omega : ¬ 0 < 0)] at HU2
          have H2 := Lib.hid (below_chain (below_chain H1.out.2 hb2) hc2)
          have H2b := Lib.hid (below_chain hb2 hc2)
          clear hV2 hb2 hc2
          go_wp2_with fail
          refine HU2.out.mono ?_
          rintro e w3 ⟨v3, rfl, hB3, hb3⟩
          have hb03 := below_chain H2.out hb3
          have HN3 := Lib.hid (HNW.out w3 hb03)
          have H3 := Lib.hid (And.intro hB3 (And.intro hb03 (below_chain H2b.out hb3)))
          clear hB3 hb3 hb03
          go_wp2_with fail
          refine HN3.out.mono ?_
          rintro e w4 ⟨p4, rfl, hV4, hb4⟩
          have hc4 : Below w4.heap.size w4 (w4.alloc (.cells #[.int .u32 1, .int .u32 0] 40)) := (Below.refl _ w4).alloc (Nat.le_refl _) _
          have HU4 := Lib.hid (uids_any p4 (srtU us) [(1, 0)] (.slice (some ⟨w4.heap.size, 0, none⟩) 1 1) (w4.alloc (.cells #[.int .u32 1, .int .u32 0] 40)) ((hV4.below hc4 (Nat.le_refl _)).mono hc4.size) ((rg_one w4 40 (1, 0)).mono (by rw [World.size_alloc]; exact Nat.le_refl _)) (by have := HI.out.2.2.2; omega) (by decide))
          rw [show ([((1, 0) : RB)].map RB.rng) = [⟨1, 0⟩] from rfl, valid_all, uids_all, HI.out.2.2.2, decide_eq_false (by omega : ¬ 0 < 0)] at HU4
          have H4 := Lib.hid (And.intro (below_chain H3.out.2.1 (below_chain hb4 hc4)) (below_chain hb4 hc4))
          clear hV4 hb4 hc4
          go_wp2_with fail
          refine HU4.out.mono ?_
          rintro e w5 ⟨v5, rfl, hB5, hb5⟩
          have hb05 := below_chain H4.out.1 hb5
          have HN5 := Lib.hid (HNW.out w5 hb05)
          have H5 := Lib.hid (And.intro hB5 (And.intro hb05 (below_chain H4.out.2 hb5)))
          clear hB5 hb5 hb05
          go_wp2_with fail
          refine HN5.out.mono ?_
          rintro e w6 ⟨p6, rfl, hV6, hb6⟩
          have hc6 : Below w6.heap.size w6 (w6.alloc (.cells #[.int .u32 1, .int .u32 1] 40)) := (Below.refl _ w6).alloc (Nat.le_refl _) _
          obtain ⟨lx, hlx⟩ : ∃ lx : List RB, lx = [(1, 1)] := ⟨_, rfl⟩
          have hlr : lx.map RB.rng = [⟨0 + 1, 1⟩] := by rw [hlx]; rfl
          have hrg : RgL (w6.alloc (.cells #[.int .u32 1, .int .u32 1] 40)) (w6.heap.size + 1) (.slice (some ⟨w6.heap.size, 0, none⟩) 1 1) (lx.map RB.rng) := by
            rw [hlx]
            exact rg_one w6 40 (1, 1)
          have HU6 := Lib.hid (seqs_any p6 (srtU us) lx (.slice (some ⟨w6.heap.size, 0, none⟩) 1 1) (w6.alloc (.cells #[.int .u32 1, .int .u32 1] 40)) ((hV6.below hc6 (Nat.le_refl _)).mono hc6.size) (hrg.mono (by rw [World.size_alloc]; exact Nat.le_refl _)) (by have := HI.out.2.2.2; omega) (by rw [hlx]; simp))
          rw [hlr, HI.out.2.2.2, valid_more] at HU6
          have H6 := Lib.hid (And.intro (below_chain H5.out.2.1 (below_chain hb6 hc6)) (below_chain hb6 hc6))
          clear hV6 hb6 hc6 hrg hlx hlr
          go_wp2_with fail
          refine HU6.out.mono ?_
          rintro e w7 ⟨v7, rfl, hB7, hb7⟩
          have HA := Lib.hid (alive_any w7)
          have H7 := Lib.hid (And.intro (below_chain H6.out.1 hb7) (below_chain H6.out.2 hb7))
          clear hB7 hb7
          go_wp2_with fail
          refine HA.out.mono ?_
          rintro e w8 ⟨rfl, hb8⟩
          have hb08 := below_chain H7.out.1 hb8
          have hb58 := below_chain H7.out.2 hb8
          have hb38 := below_chain H5.out.2.2 hb58
          have hb18 := below_chain H3.out.2.2 hb38
          have hsl1 : (srtU us).length ≤ 1048576 := by have := HI.out.2.2.2; omega
          have hdl : ((srtU us).drop (0 - 1)).length ≤ 1048576 := by rw [List.length_drop]; omega
          have hrd : Rd1 w8 0 (.slice (some ⟨g, off, none⟩) 0 0) (((srtU us).drop (0 - 1)).map (Value.int .u32)) := by
            rw [List.eq_nil_of_length_eq_zero HI.out.2.2.2]
            exact ⟨_, _, rfl, Nat.zero_le _, fun h => absurd h (by simp)⟩
          have HE := Lib.hid (eq_u32 (xs := (srtU us).drop (0 - 1)) (ys := (srtU us).drop (0 - 1)) (W := w8) (H3.out.1.rd.below hb38 (Nat.le_refl _)) hrd hdl hdl)
          rw [decide_eq_true rfl] at HE
          have HG := Lib.hid (fun q => eq_u32 (xs := srtU us) (ys := srtU us) (W := w8.drewN q) (H5.out.1.rd.below (hb58.trans (below_drewN w8 q)) (Nat.le_refl _)) (H1.out.1.rd.below (hb18.trans (below_drewN w8 q)) (Nat.le_refl _)) hsl1 hsl1)
          simp only [decide_true] at HG
          have H8 := Lib.hid hb08
          clear hb8 hb58 hb38 hb18 hsl1 hdl hrd hb08
          go_wp2_with fail
          refine HE.out.mono ?_
          rintro e w9 ⟨rfl, q, rfl⟩
          go_wp2_with fail
          refine (HG.out q).mono ?_
          rintro e wx ⟨rfl, q2, rfl⟩
          go_wp2_with fail
          go_ret
          exact ⟨rfl, H8.out.trans (below_drewN _ _)⟩
        · have hcp0 : ¬ (cp = 0) := by omega
          go_wp2_with fail
          refine HN1.out.mono ?_
          rintro e w2 ⟨p2, rfl, hV2, hb2⟩
          have hc2 : Below w2.heap.size w2 (w2.alloc (.cells #[.int .u32 0, .int .u32 0] 40)) := (Below.refl _ w2).alloc (Nat.le_refl _) _
          have HU2 := Lib.hid (uids_any p2 (srtU us) [(0, 0)] (.slice (some ⟨w2.heap.size, 0, none⟩) 1 1) (w2.alloc (.cells #[.int .u32 0, .int .u32 0] 40)) ((hV2.below hc2 (Nat.le_refl _)).mono hc2.size) ((rg_one w2 40 (0, 0)).mono (by rw [World.size_alloc]; exact Nat.le_refl _)) (by have := HI.out.2.2.2; omega) (by decide))
          rw [show ([((0, 0) : RB)].map RB.rng) = [⟨0, 0⟩] from rfl, valid_star, uids_star, HI.out.2.2.2, decide_eq_false (by omega : ¬ 0 < 0)] at HU2
          have H2 := Lib.hid (below_chain (below_chain H1.out.2 hb2) hc2)
          have H2b := Lib.hid (below_chain hb2 hc2)
          clear hV2 hb2 hc2
          go_wp2_with fail
          refine HU2.out.mono ?_
          rintro e w3 ⟨v3, rfl, hB3, hb3⟩
          have hb03 := below_chain H2.out hb3
          have HN3 := Lib.hid (HNW.out w3 hb03)
          have H3 := Lib.hid (And.intro hB3 (And.intro hb03 (below_chain H2b.out hb3)))
          clear hB3 hb3 hb03
          go_wp2_with fail
          refine HN3.out.mono ?_
          rintro e w4 ⟨p4, rfl, hV4, hb4⟩
          have hc4 : Below w4.heap.size w4 (w4.alloc (.cells #[.int .u32 1, .int .u32 0] 40)) := (Below.refl _ w4).alloc (Nat.le_refl _) _
          have HU4 := Lib.hid (uids_any p4 (srtU us) [(1, 0)] (.slice (some ⟨w4.heap.size, 0, none⟩) 1 1) (w4.alloc (.cells #[.int .u32 1, .int .u32 0] 40)) ((hV4.below hc4 (Nat.le_refl _)).mono hc4.size) ((rg_one w4 40 (1, 0)).mono (by rw [World.size_alloc]; exact Nat.le_refl _)) (by have := HI.out.2.2.2; omega) (by decide))
          rw [show ([((1, 0) : RB)].map RB.rng) = [⟨1, 0⟩] from rfl, valid_all, uids_all, HI.out.2.2.2, decide_eq_false (by omega : ¬ 0 < 0)] at HU4
          have H4 := Lib.hid (And.intro (below_chain H3.out.2.1 (below_chain hb4 hc4)) (below_chain hb4 hc4))
          clear hV4 hb4 hc4
          go_wp2_with fail
          refine HU4.out.mono ?_
          rintro e w5 ⟨v5, rfl, hB5, hb5⟩
          have hb05 := below_chain H4.out.1 hb5
          have HN5 := Lib.hid (HNW.out w5 hb05)
          have H5 := Lib.hid (And.intro hB5 (And.intro hb05 (below_chain H4.out.2 hb5)))
          clear hB5 hb5 hb05
          go_wp2_with fail
          refine HN5.out.mono ?_
          rintro e w6 ⟨p6, rfl, hV6, hb6⟩
          have hc6 : Below w6.heap.size w6 (w6.alloc (.cells #[.int .u32 1, .int .u32 1] 40)) := (Below.refl _ w6).alloc (Nat.le_refl _) _
          obtain ⟨lx, hlx⟩ : ∃ lx : List RB, lx = [(1, 1)] := ⟨_, rfl⟩
          have hlr : lx.map RB.rng = [⟨0 + 1, 1⟩] := by rw [hlx]; rfl
          have hrg : RgL (w6.alloc (.cells #[.int .u32 1, .int .u32 1] 40)) (w6.heap.size + 1) (.slice (some ⟨w6.heap.size, 0, none⟩) 1 1) (lx.map RB.rng) := by
            rw [hlx]
            exact rg_one w6 40 (1, 1)
          have HU6 := Lib.hid (seqs_any p6 (srtU us) lx (.slice (some ⟨w6.heap.size, 0, none⟩) 1 1) (w6.alloc (.cells #[.int .u32 1, .int .u32 1] 40)) ((hV6.below hc6 (Nat.le_refl _)).mono hc6.size) (hrg.mono (by rw [World.size_alloc]; exact Nat.le_refl _)) (by have := HI.out.2.2.2; omega) (by rw [hlx]; simp))
          rw [hlr, HI.out.2.2.2, valid_more] at HU6
          have H6 := Lib.hid (And.intro (below_chain H5.out.2.1 (below_chain hb6 hc6)) (below_chain hb6 hc6))
          clear hV6 hb6 hc6 hrg hlx hlr
          go_wp2_with fail
          refine HU6.out.mono ?_
          rintro e w7 ⟨v7, rfl, hB7, hb7⟩
          have HA := Lib.hid (alive_any w7)
          have H7 := Lib.hid (And.intro (below_chain H6.out.1 hb7) (below_chain H6.out.2 hb7))
          clear hB7 hb7
          go_wp2_with fail
          refine HA.out.mono ?_
          rintro e w8 ⟨rfl, hb8⟩
          have hb08 := below_chain H7.out.1 hb8
          have hb58 := below_chain H7.out.2 hb8
          have hb38 := below_chain H5.out.2.2 hb58
          have hb18 := below_chain H3.out.2.2 hb38
          have hsl1 : (srtU us).length ≤ 1048576 := by have := HI.out.2.2.2; omega
          have hdl : ((srtU us).drop (0 - 1)).length ≤ 1048576 := by rw [List.length_drop]; omega
          have hrd : Rd1 w8 0 (.slice (some ⟨g, off, none⟩) 0 cp) (((srtU us).drop (0 - 1)).map (Value.int .u32)) := by
            rw [List.eq_nil_of_length_eq_zero HI.out.2.2.2]
            exact ⟨_, _, rfl, Nat.zero_le _, fun h => absurd h (by simp)⟩
          have HE := Lib.hid (eq_u32 (xs := (srtU us).drop (0 - 1)) (ys := (srtU us).drop (0 - 1)) (W := w8) (H3.out.1.rd.below hb38 (Nat.le_refl _)) hrd hdl hdl)
          rw [decide_eq_true rfl] at HE
          have HG := Lib.hid (fun q => eq_u32 (xs := srtU us) (ys := srtU us) (W := w8.drewN q) (H5.out.1.rd.below (hb58.trans (below_drewN w8 q)) (Nat.le_refl _)) (H1.out.1.rd.below (hb18.trans (below_drewN w8 q)) (Nat.le_refl _)) hsl1 hsl1)
          simp only [decide_true] at HG
          have H8 := Lib.hid hb08
          clear hb8 hb58 hb38 hb18 hsl1 hdl hrd hb08
          go_wp2_with fail
          refine HE.out.mono ?_
          rintro e w9 ⟨rfl, q, rfl⟩
          go_wp2_with fail
          refine (HG.out q).mono ?_
          rintro e wx ⟨rfl, q2, rfl⟩
          go_wp2_with fail
          go_ret
          exact ⟨rfl, H8.out.trans (below_drewN _ _)⟩
      · obtain ⟨k, rfl⟩ : ∃ k, m = k + 1 := ⟨m - 1, by omega⟩
        have hmax : max (k : Int) 0 = (k : Int) := by omega
        have hcpk : ¬ (cp ≤ k) := by omega
        have hcps : ¬ (cp - k = 0) := by omega
        have hcpI : (k : Int) + 1 ≤ cp := by omega
        have hk0 : (0 : Int) < (k : Int) + 1 := by omega
        have hwk : IntKind.i64.wrap (k : Int) = k := by simp [IntKind.wrap, IntKind.bits, IntKind.signed]; omega
        go_wp2_with fail
        refine HN1.out.mono ?_
        rintro e w2 ⟨p2, rfl, hV2, hb2⟩
        have hc2 : Below w2.heap.size w2 (w2.alloc (.cells #[.int .u32 0, .int .u32 0] 40)) := (Below.refl _ w2).alloc (Nat.le_refl _) _
        have HU2 := Lib.hid (uids_any p2 (srtU us) [(0, 0)] (.slice (some ⟨w2.heap.size, 0, none⟩) 1 1) (w2.alloc (.cells #[.int .u32 0, .int .u32 0] 40)) ((hV2.below hc2 (Nat.le_refl _)).mono hc2.size) ((rg_one w2 40 (0, 0)).mono (by rw [World.size_alloc]; exact Nat.le_refl _)) (by have := HI.out.2.2.2; omega) (by decide))
        rw [show ([((0, 0) : RB)].map RB.rng) = [⟨0, 0⟩] from rfl, valid_star, uids_star, HI.out.2.2.2, decide_eq_true (by omega : 0 < k + 1)] at HU2
        have H2 := Lib.hid (below_chain (below_chain H1.out.2 hb2) hc2)
        have H2b := Lib.hid (below_chain hb2 hc2)
        clear hV2 hb2 hc2
        go_wp2_with fail
        refine HU2.out.mono ?_
        rintro e w3 ⟨v3, rfl, hB3, hb3⟩
        have hb03 := below_chain H2.out hb3
        have HN3 := Lib.hid (HNW.out w3 hb03)
        have H3 := Lib.hid (And.intro hB3 (And.intro hb03 (below_chain H2b.out hb3)))
        clear hB3 hb3 hb03
        go_wp2_with fail
        refine HN3.out.mono ?_
        rintro e w4 ⟨p4, rfl, hV4, hb4⟩
        have hc4 : Below w4.heap.size w4 (w4.alloc (.cells #[.int .u32 1, .int .u32 0] 40)) := (Below.refl _ w4).alloc (Nat.le_refl _) _
        have HU4 := Lib.hid (uids_any p4 (srtU us) [(1, 0)] (.slice (some ⟨w4.heap.size, 0, none⟩) 1 1) (w4.alloc (.cells #[.int .u32 1, .int .u32 0] 40)) ((hV4.below hc4 (Nat.le_refl _)).mono hc4.size) ((rg_one w4 40 (1, 0)).mono (by rw [World.size_alloc]; exact Nat.le_refl _)) (by have := HI.out.2.2.2; omega) (by decide))
        rw [show ([((1, 0) : RB)].map RB.rng) = [⟨1, 0⟩] from rfl, valid_all, uids_all, HI.out.2.2.2, decide_eq_true (by omega : 0 < k + 1)] at HU4
        have H4 := Lib.hid (And.intro (below_chain H3.out.2.1 (below_chain hb4 hc4)) (below_chain hb4 hc4))
        clear hV4 hb4 hc4
        go_wp2_with fail
        refine HU4.out.mono ?_
        rintro e w5 ⟨v5, rfl, hB5, hb5⟩
        have hb05 := below_chain H4.out.1 hb5
        have HN5 := Lib.hid (HNW.out w5 hb05)
        have H5 := Lib.hid (And.intro hB5 (And.intro hb05 (below_chain H4.out.2 hb5)))
        clear hB5 hb5 hb05
        go_wp2_with fail
        refine HN5.out.mono ?_
        rintro e w6 ⟨p6, rfl, hV6, hb6⟩
        have hc6 : Below w6.heap.size w6 (w6.alloc (.cells #[.int .u32 (((k : Int) + 1) + 1), .int .u32 1] 40)) := (Below.refl _ w6).alloc (Nat.le_refl _) _
        obtain ⟨lx, hlx⟩ : ∃ lx : List RB, lx = [(⟨k + 1 + 1, by omega⟩, 1)] := ⟨_, rfl⟩
        have hlr : lx.map RB.rng = [⟨k + 1 + 1, 1⟩] := by rw [hlx]; rfl
        have hrg : RgL (w6.alloc (.cells #[.int .u32 (((k : Int) + 1) + 1), .int .u32 1] 40)) (w6.heap.size + 1) (.slice (some ⟨w6.heap.size, 0, none⟩) 1 1) (lx.map RB.rng) := by
          rw [hlx]
          exact rg_one w6 40 (⟨k + 1 + 1, by omega⟩, 1)
        have HU6 := Lib.hid (seqs_any p6 (srtU us) lx (.slice (some ⟨w6.heap.size, 0, none⟩) 1 1) (w6.alloc (.cells #[.int .u32 (((k : Int) + 1) + 1), .int .u32 1] 40)) ((hV6.below hc6 (Nat.le_refl _)).mono hc6.size) (hrg.mono (by rw [World.size_alloc]; exact Nat.le_refl _)) (by have := HI.out.2.2.2; omega) (by rw [hlx]; simp))
        rw [hlr, HI.out.2.2.2, valid_more] at HU6
        have H6 := Lib.hid (And.intro (below_chain H5.out.2.1 (below_chain hb6 hc6)) (below_chain hb6 hc6))
        clear hV6 hb6 hc6 hrg hlx hlr
        go_wp2_with fail
        refine HU6.out.mono ?_
        rintro e w7 ⟨v7, rfl, hB7, hb7⟩
        have HA := Lib.hid (alive_any w7)
        have H7 := Lib.hid (And.intro (below_chain H6.out.1 hb7) (below_chain H6.out.2 hb7))
        clear hB7 hb7
        go_wp2_with fail
        refine HA.out.mono ?_
        rintro e w8 ⟨rfl, hb8⟩
        have hb08 := below_chain H7.out.1 hb8
        have hb58 := below_chain H7.out.2 hb8
        have hb38 := below_chain H5.out.2.2 hb58
        have hb18 := below_chain H3.out.2.2 hb38
        have hsl1 : (srtU us).length ≤ 1048576 := by have := HI.out.2.2.2; omega
        have hdl : ((srtU us).drop (k + 1 - 1)).length ≤ 1048576 := by rw [List.length_drop]; omega
        have hrd : Rd1 w8 w1.heap.size (.slice (some ⟨g, off + k, none⟩) 1 (cp - k)) (((srtU us).drop (k + 1 - 1)).map (Value.int .u32)) := by
          have h1 := H1.out.1.rd.below hb18 (Nat.le_refl _)
          have h2 := rd_drop (k := k) (c := cp - k) h1 (by have := HI.out.2.2.2; omega) (by omega)
          rw [show k + 1 - k = 1 by omega] at h2
          rw [show k + 1 - 1 = k by omega]
          exact h2
        have HE := Lib.hid (eq_u32 (xs := (srtU us).drop (k + 1 - 1)) (ys := (srtU us).drop (k + 1 - 1)) (W := w8) (H3.out.1.rd.below hb38 (Nat.le_refl _)) hrd hdl hdl)
        rw [decide_eq_true rfl] at HE
        have HG := Lib.hid (fun q => eq_u32 (xs := srtU us) (ys := srtU us) (W := w8.drewN q) (H5.out.1.rd.below (hb58.trans (below_drewN w8 q)) (Nat.le_refl _)) (H1.out.1.rd.below (hb18.trans (below_drewN w8 q)) (Nat.le_refl _)) hsl1 hsl1)
        simp only [decide_true] at HG
        have H8 := Lib.hid hb08
        clear hb8 hb58 hb38 hb18 hsl1 hdl hrd hb08
        go_wp2_with fail
        refine HE.out.mono ?_
        rintro e w9 ⟨rfl, q, rfl⟩
        go_wp2_with fail
        refine (HG.out q).mono ?_
        rintro e wx ⟨rfl, q2, rfl⟩
        go_wp2_with fail
        go_ret
        exact ⟨rfl, H8.out.trans (below_drewN _ _)⟩
end Go.Proofs.Ytlfpefebocepfaa
