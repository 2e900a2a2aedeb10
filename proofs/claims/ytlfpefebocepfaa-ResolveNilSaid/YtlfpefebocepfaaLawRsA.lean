/- ResolveSets and ResolveStar: the law's own walk. -/
import Derived.Test.YtlfpefebocepfaaAlv18
import Derived.Test.YtlfpefebocepfaaRefX
import Derived.Test.YtlfpefebocepfaaRefS
set_option linter.unusedVariables false
set_option linter.unusedSimpArgs false
namespace Go.Proofs.Ytlfpefebocepfaa
open Go Go.RowKit Go.Shelf Go.Lib Go.Sort

set_option maxHeartbeats 400000 in
theorem rnew_any (us : List Int) (v : Value) (w : World) (hU : U32 w w.heap.size v us) (hl : us.length ≤ 1000000) :
    Calls Try.prog 10 #[v] w fun e w' => ∃ v', e = .returned v' ∧ B32 w' w.heap.size v' (srtU us) ∧ Below w.heap.size w w' := by
  have HS := Lib.hid (ref_sorted us v w hU hl)
  clear hU
  go_enter Try.func10, Try.ntmps10
  go_wp2_with fail
  refine HS.out.mono ?_
  rintro e w1 ⟨v1, rfl, h1, h2⟩
  have H1 := Lib.hid (And.intro h1 h2)
  clear h1 h2
  go_wp2_with fail
  go_ret
  exact ⟨v1, rfl, H1.out⟩
theorem i64_map (ns : List Nat) : ns.map i64N = (ns.map fun n : Nat => (n : Int)).map (Value.int .i64) := by
  rw [List.map_map]; rfl
theorem below_chain {w a b : World} (h : Below w.heap.size w a) (k : Below a.heap.size a b) : Below w.heap.size w b := h.trans (k.mono h.size)

set_option maxRecDepth 100000 in
set_option maxHeartbeats 3200000 in
theorem resolveSets_walk (us : List Int) (l : List RB) (vu vr : Value) (w : World) (hU : U32 w w.heap.size vu us) (hR : RgL w w.heap.size vr (l.map RB.rng)) (h0 : ∀ x ∈ us, 0 ≤ x) :
    Calls Try.prog 3 #[vu, vr] w fun e w' => e = .returned (.bool true) ∧ Below w.heap.size w w' := by
  have HF := Lib.hid (few_any vu vr us (l.map RB.rng) w hU hR)
  cases hf : (decide (us.length ≤ 60) && decide ((l.map RB.rng).length ≤ 40)) with
  | false =>
    rw [hf] at HF
    have HA := Lib.hid (alive_any w)
    clear hf hU hR h0
    go_enter Try.func3, Try.ntmps3
    go_wp2_with fail
    refine HF.out.mono ?_
    rintro e w' ⟨rfl, rfl⟩
    go_wp2_with fail
    refine HA.out.mono ?_
    rintro e w2 ⟨rfl, hb⟩
    have HB := Lib.hid hb
    clear hb
    go_wp2_with fail
    go_ret
    exact ⟨rfl, HB.out⟩
  | true =>
    rw [hf] at HF
    rw [Bool.and_eq_true, decide_eq_true_eq, decide_eq_true_eq, List.length_map] at hf
    obtain ⟨hu, hl⟩ := hf
    obtain ⟨Au, cu, rfl, -, -⟩ := id hU
    have hsl : (srtU us).length ≤ 60 := Nat.le_trans (srtU_len us) hu
    have HI := Lib.hid (And.intro hU (And.intro hR (And.intro h0 (And.intro hu (And.intro hl hsl)))))
    have HN := Lib.hid (vnew_any us Au cu w hU (by omega) h0)
    clear hU hR h0 hu hl hsl
    generalize hnn : us.length = n at HF HN ⊢
    have HNN := Lib.hid hnn
    have HU1 : Hid (U32 w w.heap.size (.slice Au n cu) us) := Lib.hid (by rw [← hnn]; exact HI.out.1)
    clear hnn
    go_enter Try.func3, Try.ntmps3
    go_wp2_with fail
    refine HF.out.mono ?_
    rintro e w' ⟨rfl, rfl⟩
    go_wp2_with fail
    refine HN.out.mono ?_
    rintro e w1 ⟨p, rfl, hV1, hb1⟩
    have HM := Lib.hid (rnew_any us (.slice Au n cu) w1 ((HU1.out.below hb1 (Nat.le_refl _)).mono hb1.size) (by have := HI.out.2.2.2.1; omega))
    have H1 := Lib.hid (And.intro hV1 hb1)
    clear hV1 hb1
    go_wp2_with fail
    refine HM.out.mono ?_
    rintro e w2 ⟨vw, rfl, hW2, hb2⟩
    have hV2 := (H1.out.1.below hb2 (Nat.le_refl _)).mono hb2.size
    have hb02 := below_chain H1.out.2 hb2
    have hR2 := (HI.out.2.1.below hb02 (Nat.le_refl _)).mono hb02.size
    have HS := Lib.hid (seqs_any p (srtU us) l vr w2 hV2 hR2 (by have := HI.out.2.2.2.2.2; omega) (by have := HI.out.2.2.2.2.1; omega))
    have hWr : U32 w2 w2.heap.size vw (srtU us) := U32.of_buf hW2
    have H2 := Lib.hid (And.intro hV2 (And.intro hR2 (And.intro hWr hb02)))
    clear hV2 hR2 hWr hb02 hW2 hb2
    obtain ⟨ok, hok⟩ : ∃ ok, validB (srtU us).length (l.map RB.rng) = ok := ⟨_, rfl⟩
    rw [hok] at HS
    have HOK := Lib.hid hok
    clear hok
    go_wp2_with fail
    refine HS.out.mono ?_
    rintro e w3 ⟨v3, rfl, hB3, hb3⟩
    have HU := Lib.hid (uids_any p (srtU us) l vr w3 ((H2.out.1.below hb3 (Nat.le_refl _)).mono hb3.size) ((H2.out.2.1.below hb3 (Nat.le_refl _)).mono hb3.size) (by have := HI.out.2.2.2.2.2; omega) (by have := HI.out.2.2.2.2.1; omega))
    rw [HOK.out] at HU
    have H3 := Lib.hid (And.intro (Rd1.of_buf hB3) hb3)
    clear hB3 hb3
    go_wp2_with fail
    refine HU.out.mono ?_
    rintro e w4 ⟨v4, rfl, hB4, hb4⟩
    have hb24 := below_chain H3.out.2 hb4
    have HP := Lib.hid (ref_seqs (srtU us) vw (l.map RB.rng) vr w4 ((H2.out.2.2.1.below hb24 (Nat.le_refl _)).mono hb24.size) ((H2.out.2.1.below hb24 (Nat.le_refl _)).mono hb24.size) (by have := HI.out.2.2.2.2.2; omega) (by rw [List.length_map]; have := HI.out.2.2.2.2.1; omega))
    rw [HOK.out] at HP
    have H4 := Lib.hid (And.intro (Rd1.of_buf hB4) (And.intro hb4 hb24))
    clear hB4 hb4 hb24
    go_wp2_with fail
    refine HP.out.mono ?_
    rintro e w5 ⟨v5, rfl, hB5, hb5⟩
    have hb25 := below_chain H4.out.2.2 hb5
    have HQ := Lib.hid (ref_uids (srtU us) vw (l.map RB.rng) vr w5 ((H2.out.2.2.1.below hb25 (Nat.le_refl _)).mono hb25.size) ((H2.out.2.1.below hb25 (Nat.le_refl _)).mono hb25.size) (by have := HI.out.2.2.2.2.2; omega) (by rw [List.length_map]; have := HI.out.2.2.2.2.1; omega))
    rw [HOK.out] at HQ
    have H5 := Lib.hid (And.intro (Rd1.of_buf hB5) (And.intro hb5 hb25))
    clear hB5 hb5 hb25
    go_wp2_with fail
    refine HQ.out.mono ?_
    rintro e w6 ⟨v6, rfl, hB6, hb6⟩
    have hb26 := below_chain H5.out.2.2 hb6
    have hb36 := below_chain (below_chain H4.out.2.1 H5.out.2.1) hb6
    have hb46 := below_chain H5.out.2.1 hb6
    have H6 := Lib.hid (And.intro (Rd1.of_buf hB6) (And.intro hb6 (And.intro hb26 (And.intro hb36 hb46))))
    clear hB6 hb6 hb26 hb36 hb46
    have HA := Lib.hid (alive_any w6)
    go_wp2_with fail
    refine HA.out.mono ?_
    rintro e w7 ⟨rfl, hb7⟩
    have hlen1 := numsOf_len (srtU us).length (l.map RB.rng)
    have HE := Lib.hid (eq_i64 (xs := (numsOf (srtU us).length (l.map RB.rng)).map fun n : Nat => (n : Int)) (ys := (numsOf (srtU us).length (l.map RB.rng)).map fun n : Nat => (n : Int)) (v1 := v3) (v2 := v5) (W := w7)
      ((by have := H3.out.1; rw [i64_map] at this; exact this.below (below_chain H6.out.2.2.2.1 hb7) (Nat.le_refl _))) ((by have := H5.out.1; rw [i64_map] at this; exact this.below (below_chain H6.out.2.1 hb7) (Nat.le_refl _)))
      (by rw [List.length_map]; have := HI.out.2.2.2.2.2; omega) (by rw [List.length_map]; have := HI.out.2.2.2.2.2; omega))
    rw [decide_eq_true rfl] at HE
    have hlen2 : (uidsOf (srtU us) (l.map RB.rng)).length ≤ 1048576 := by unfold uidsOf; rw [List.length_map]; have := HI.out.2.2.2.2.2; omega
    have HG := Lib.hid (fun q => eq_u32 (v1 := v4) (v2 := v6) (W := w7.drewN q) (h1 := H4.out.1.below ((below_chain H6.out.2.2.2.2 hb7).trans (below_drewN w7 q)) (Nat.le_refl _)) (h2 := H6.out.1.below (hb7.trans (below_drewN w7 q)) (Nat.le_refl _)) hlen2 hlen2)
    simp only [decide_true] at HG
    have H7 := Lib.hid (below_chain H2.out.2.2.2 (below_chain H6.out.2.2.1 hb7))
    clear hb7 hlen1 hlen2
    cases ok <;>
    · go_wp2_with fail
      refine HE.out.mono ?_
      rintro e w8 ⟨rfl, q, rfl⟩
      go_wp2_with fail
      refine (HG.out q).mono ?_
      rintro e w9 ⟨rfl, q2, rfl⟩
      go_wp2_with fail
      go_ret
      exact ⟨rfl, H7.out.trans (below_drewN _ _)⟩
end Go.Proofs.Ytlfpefebocepfaa
