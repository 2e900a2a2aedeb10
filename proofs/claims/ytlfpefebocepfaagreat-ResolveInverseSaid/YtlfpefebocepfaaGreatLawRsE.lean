/- ResolveInverse: the law's own walk. -/
import Derived.Test.YtlfpefebocepfaaGreatRefO
import Derived.Test.YtlfpefebocepfaaGreatAlv18
set_option linter.unusedVariables false
set_option linter.unusedSimpArgs false
namespace Go.Proofs.YtlfpefebocepfaaGreat
open Go Go.RowKit Go.Shelf Go.Lib Go.Sort

def wantL (vl so : List Int) : List Int := so.filter fun u => decide (0 < posU vl u)
theorem wantL_len (vl so : List Int) : (wantL vl so).length ≤ so.length := List.length_filter_le _ _
theorem wantL_yes {vl so : List Int} {k : Nat} (hk : k < so.length) (h : 0 < posU vl so[k]) : wantL vl (so.take (k + 1)) = wantL vl (so.take k) ++ [so[k]] := by
  unfold wantL
  rw [List.take_succ_eq_append_getElem hk, List.filter_append]
  simp [h]
theorem wantL_no {vl so : List Int} {k : Nat} (hk : k < so.length) (h : ¬ 0 < posU vl so[k]) : wantL vl (so.take (k + 1)) = wantL vl (so.take k) := by
  unfold wantL
  rw [List.take_succ_eq_append_getElem hk, List.filter_append]
  simp [h]

set_option maxRecDepth 100000 in
set_option maxHeartbeats 6400000 in
theorem resolveInverse_walk (us so : List Int) (vu vo : Value) (w : World) (hU : U32 w w.heap.size vu us) (hO : U32 w w.heap.size vo so) (h0 : ∀ x ∈ us, 0 ≤ x) (h1 : ∀ x ∈ so, 0 ≤ x) :
    Calls Tryz.prog 3 #[vu, vo] w fun e w' => e = .returned (.bool true) ∧ Below w.heap.size w w' := by
  have hRn : RgL w w.heap.size (.slice none 0 0) [] := ⟨none, 0, rfl, Nat.le_refl _, fun h => absurd h (by simp)⟩
  have HF1 := Lib.hid (few_any vu (.slice none 0 0) us [] w hU hRn)
  have HF2 := Lib.hid (few_any vo (.slice none 0 0) so [] w hO hRn)
  clear hRn
  cases hf : (decide (us.length ≤ 60) && decide (([] : List Rng).length ≤ 40)) with
  | false =>
    rw [hf] at HF1
    have HL := Lib.hid (alive_any w)
    clear hf hU hO h0 h1
    go_enter Tryz.func3, Tryz.ntmps3
    go_wp2_with fail
    refine HF1.out.mono ?_
    rintro e w' ⟨rfl, rfl⟩
    go_wp2_with fail
    refine HL.out.mono ?_
    rintro e w2 ⟨rfl, hb⟩
    have HB := Lib.hid hb
    clear hb
    go_wp2_with fail
    go_ret
    exact ⟨rfl, HB.out⟩
  | true =>
  cases hg : (decide (so.length ≤ 60) && decide (([] : List Rng).length ≤ 40)) with
  | false =>
    rw [hf] at HF1
    rw [hg] at HF2
    have HL := Lib.hid (alive_any w)
    clear hf hg hU hO h0 h1
    go_enter Tryz.func3, Tryz.ntmps3
    go_wp2_with fail
    refine HF1.out.mono ?_
    rintro e w' ⟨rfl, rfl⟩
    go_wp2_with fail
    refine HF2.out.mono ?_
    rintro e w' ⟨rfl, rfl⟩
    go_wp2_with fail
    refine HL.out.mono ?_
    rintro e w2 ⟨rfl, hb⟩
    have HB := Lib.hid hb
    clear hb
    go_wp2_with fail
    go_ret
    exact ⟨rfl, HB.out⟩
  | true =>
    rw [hf] at HF1
    rw [hg] at HF2
    rw [Bool.and_eq_true, decide_eq_true_eq, decide_eq_true_eq] at hf hg
    obtain ⟨hu, -⟩ := hf
    obtain ⟨ho, -⟩ := hg
    obtain ⟨Au, cu, rfl, -, -⟩ := id hU
    obtain ⟨Ao, co, rfl, hcap, hco⟩ := id hO
    have hsl : (srtU us).length ≤ 60 := Nat.le_trans (srtU_len us) hu
    have HN := Lib.hid (vnew_any us Au cu w hU (by omega) h0)
    obtain ⟨m, hm⟩ : ∃ n, so.length = n := ⟨_, rfl⟩
    rw [hm] at hO hco HF2 hcap ho ⊢
    have hmI : (m : Int) ≤ 60 := by omega
    obtain ⟨vl, hvl⟩ : ∃ vl, srtU us = vl := ⟨_, rfl⟩
    rw [hvl] at HN hsl
    have hasc : asc vl := by rw [← hvl]; exact srtU_asc us
    have hnz : ∀ x ∈ vl, x ≠ 0 := fun x hx => by rw [← hvl] at hx; exact (srtU_mem.1 hx).2
    have HI := Lib.hid (And.intro hU (And.intro hO (And.intro hvl (And.intro hsl (And.intro hasc (And.intro hnz (And.intro hm h1)))))))
    have HCO := Lib.hid hco
    have HUI := Lib.hid (uids_inv (vl := vl) (so := so) hasc hnz (by omega))
    have HU0 := Lib.hid (And.intro hu h0)
    clear hU hO h0 h1 hu hsl hco hvl hasc hnz hm
    generalize us.length = n at HF1 HN HI ⊢
    go_enter Tryz.func3, Tryz.ntmps3
    go_wp2_with fail
    refine HF1.out.mono ?_
    rintro e w' ⟨rfl, rfl⟩
    go_wp2_with fail
    refine HF2.out.mono ?_
    rintro e w' ⟨rfl, rfl⟩
    go_wp2_with fail
    refine HN.out.mono ?_
    rintro e w1 ⟨p, rfl, hV1, hb1⟩
    have HM := Lib.hid (rnew_any us (.slice Au n cu) w1 ((HI.out.1.below hb1 (Nat.le_refl _)).mono hb1.size) (by have := HU0.out.1; omega))
    rw [HI.out.2.2.1] at HM
    have H1 := Lib.hid (And.intro hV1 hb1)
    clear hV1 hb1
    go_wp2_with fail
    refine HM.out.mono ?_
    rintro e w2 ⟨vw, rfl, hW2, hb2⟩
    have hb02 := below_chain H1.out.2 hb2
    have hV2 := (H1.out.1.below hb2 (Nat.le_refl _)).mono hb2.size
    have hO2 := (HI.out.2.1.below hb02 (Nat.le_refl _)).mono hb02.size
    have hW2r : U32 w2 w2.heap.size vw vl := U32.of_buf hW2
    have HS := Lib.hid (set_any p vl so (.slice Ao m co) w2 hV2 HI.out.2.2.2.2.1 (by have := HI.out.2.2.2.1; omega) hO2 (by have := HI.out.2.2.2.2.2.2.1; omega))
    have H2 := Lib.hid (And.intro hV2 (And.intro hO2 (And.intro hW2r hb02)))
    clear hV2 hO2 hW2r hb02 hW2 hb2
    obtain ⟨G, hG⟩ : ∃ G, grp (srtU (posL vl so)) = G := ⟨_, rfl⟩
    rw [hG] at HS HUI
    have HG := Lib.hid hG
    have hGl : G.length ≤ 60 := by
      rw [← hG]
      have h1 := foldG_len (srtU (posL vl so)) []
      have h2 := srtU_len (posL vl so)
      rw [posL_len] at h2
      have := HI.out.2.2.2.2.2.2.1
      change (grp (srtU (posL vl so))).length ≤ _ at h1
      simp at h1
      omega
    have hGb : ∀ q ∈ G, (0 ≤ q.1 ∧ q.1 < 4294967296) ∧ (0 ≤ q.2 ∧ q.2 < 4294967296) := fun q hq => by
      rw [← hG] at hq
      obtain ⟨g1, g2⟩ := grp_in q hq
      have k1 := posL_in (vl := vl) (us := so) (by have := HI.out.2.2.2.1; omega) q.1 (srtU_mem.1 g1).1
      have k2 := posL_in (vl := vl) (us := so) (by have := HI.out.2.2.2.1; omega) q.2 (srtU_mem.1 g2).1
      exact ⟨k1, k2⟩
    have HGB := Lib.hid (And.intro hGl hGb)
    clear hG hGl hGb
    go_wp2_with fail
    refine HS.out.mono ?_
    rintro e w3 ⟨v3, rfl, hB3, hb3⟩
    have hb03 := below_chain H2.out.2.2.2 hb3
    have HR := Lib.hid (rset_any vl so vw (.slice Ao m co) w3 ((H2.out.2.2.1.below hb3 (Nat.le_refl _)).mono hb3.size) HI.out.2.2.2.2.1 (by have := HI.out.2.2.2.1; omega) ((H2.out.2.1.below hb3 (Nat.le_refl _)).mono hb3.size) (by have := HI.out.2.2.2.2.2.2.1; omega))
    rw [HG.out] at HR
    have hrd3 : RgL w3 w3.heap.size v3 ((G.map rbP).map RB.rng) := RgL.of_buf (by rw [List.length_map, rbP_flat HGB.out.2]; exact hB3)
    have H3 := Lib.hid (And.intro (RdP.of_buf hB3) (And.intro hb3 (And.intro hb03 hrd3)))
    clear hB3 hb3 hb03 hrd3
    go_wp2_with fail
    refine HR.out.mono ?_
    rintro e w4 ⟨v4, rfl, hB4, hb4⟩
    have hb04 := below_chain H3.out.2.2.1 hb4
    have hb24 := below_chain H3.out.2.1 hb4
    have HE := Lib.hid (eqr_same (W := w4) (H3.out.1.below hb4 (Nat.le_refl _)) (RdP.of_buf hB4) (by have := HGB.out.1; omega))
    have H4 := Lib.hid (And.intro hb4 (And.intro hb04 hb24))
    clear hB4 hb4 hb04 hb24
    go_wp2_with fail
    refine HE.out.mono ?_
    rintro e w5 ⟨rfl, q, rfl⟩
    have HP := Lib.hid (fun W u (hb : Below w4.heap.size w4 W) => rpos_any vl u vw W ((H2.out.2.2.1.below (below_chain H4.out.2.2 hb) (Nat.le_refl _)).mono (below_chain H4.out.2.2 hb).size) HI.out.2.2.2.2.1 (by have := HI.out.2.2.2.1; omega))
    go_wp2_with fail
    go_loopw [8, 37] (fun s8 i wr => ∃ (k : Nat) (sv : Value), k ≤ m ∧ sv = s8 ∧ i = .int .i64 k ∧ Buf wr w4.heap.size 1 sv (wantL vl (so.take k)).length ((wantL vl (so.take k)).map (Value.int .u32)) ∧ Below w4.heap.size w4 wr) (fun _ i _ => m - (intOf i).toNat)
    case atStart => exact ⟨0, _, Nat.zero_le _, rfl, rfl, Buf.nil _ _ _, below_drewN _ _⟩
    case round =>
      obtain ⟨k, sv, hk, rfl, rfl, hbuf, hbel⟩ := hrel
      have hkI : (k : Int) ≤ m := by omega
      by_cases hlt : k < m
      · have hltI : (k : Int) < m := by omega
        have hkl : k < so.length := by have := HI.out.2.2.2.2.2.2.1; omega
        obtain ⟨x, hxe⟩ : ∃ x, so[k] = x := ⟨_, rfl⟩
        have hx : so[k]? = some x := by rw [List.getElem?_eq_getElem hkl, hxe]
        obtain ⟨b, o, rfl, hb, hcl⟩ := HCO.out (by omega)
        have hb0r := below_chain H4.out.2.1 hbel
        have c0 : wr.cell? ⟨b, o + k, none⟩ = some (.int .u32 x) := (hb0r.cell (p := ⟨b, o + k, none⟩) hb).trans (hcl k x hx)
        have HF := Lib.hid (HP.out wr x hbel)
        have hwl := wantL_len vl (so.take k)
        rw [List.length_take] at hwl
        by_cases hp : 0 < posU vl x
        · have hstep := wantL_yes (vl := vl) hkl (by rw [hxe]; exact hp)
          rw [hxe] at hstep
          obtain ⟨r, hr⟩ : ∃ r, posU vl x = r := ⟨_, rfl⟩
          rw [hr] at HF hp
          have hpI : (0 : Int) < (r : Int) := by omega
          obtain ⟨g, o2, c2, w6, hrun, hb6, hbel6⟩ := push_one Tryz.underlying22 infoU32 rfl (by decide) hbuf (.int .u32 x) rfl hbel.size (by omega)
          have HRN := Lib.hid hrun
          have HX := Lib.hid (And.intro hb6 (And.intro hbel6 (And.intro hbel hstep)))
          clear hrun hb6 hbel6 hbuf hbel hxe hx hcl hr hstep hwl hb0r
          go_wp2_with fail
          refine HF.out.mono ?_
          rintro e w7 ⟨rfl, rfl⟩
          go_wp2_with (at_builtin; refine wpList_append_run _ rfl (.tmp 45) (.tmp 47) _ _ rfl _ _ rfl rfl _ _ HRN.out ?_)
          go_roundw
          case rel =>
            refine ⟨k + 1, _, by omega, rfl, by go_num, ?_, HX.out.2.2.1.trans HX.out.2.1⟩
            rw [HX.out.2.2.2, List.length_append, List.map_append]
            exact HX.out.1
          case measure => simp [intOf]; omega
        · have hstep := wantL_no (vl := vl) hkl (by rw [hxe]; exact hp)
          obtain ⟨r, hr⟩ : ∃ r, posU vl x = r := ⟨_, rfl⟩
          rw [hr] at HF hp
          obtain rfl : r = 0 := by omega
          have HX := Lib.hid (And.intro hbuf (And.intro hbel hstep))
          clear hbuf hbel hxe hx hcl hr hstep hwl hb0r
          go_wp2_with fail
          refine HF.out.mono ?_
          rintro e w7 ⟨rfl, rfl⟩
          go_wp2_with fail
          go_roundw
          case rel =>
            refine ⟨k + 1, _, by omega, rfl, by go_num, ?_, HX.out.2.1⟩
            rw [HX.out.2.2]
            exact HX.out.1
          case measure => simp [intOf]; omega
      · obtain rfl : k = m := by omega
        rw [List.take_of_length_le (by have := HI.out.2.2.2.2.2.2.1; omega)] at hbuf
        have hwl := wantL_len vl so
        have HT := Lib.hid (ref_sorted (wantL vl so) sv wr (U32.of_buf hbuf) (by have := HI.out.2.2.2.2.2.2.1; omega))
        have hb3r := below_chain H4.out.1 hbel
        have HB := Lib.hid (And.intro hbel hb3r)
        clear hbuf hbel hwl hb3r
        obtain ⟨wl, hwl⟩ : ∃ wl, srtU (wantL vl so) = wl := ⟨_, rfl⟩
        rw [hwl] at HT
        have HWL := Lib.hid hwl
        clear hwl
        go_wp2_with fail
        refine HT.out.mono ?_
        rintro e w6 ⟨v6, rfl, hB6, hb6⟩
        have hb36 := below_chain HB.out.2 hb6
        have hb26 := below_chain H3.out.2.1 hb36
        have HU := Lib.hid (uids_any p vl (G.map rbP) v3 w6 ((H2.out.1.below hb26 (Nat.le_refl _)).mono hb26.size) ((H3.out.2.2.2.below hb36 (Nat.le_refl _)).mono hb36.size) (by have := HI.out.2.2.2.1; omega) (by rw [List.length_map]; have := HGB.out.1; omega))
        rw [HUI.out.1, HUI.out.2] at HU
        change Hid (Calls _ _ _ _ fun e w' => ∃ v', e = .returned (.tuple #[v', .bool (decide (0 < (srtU (wantL vl so)).length))]) ∧ B32 w' w6.heap.size v' (srtU (wantL vl so)) ∧ _) at HU
        rw [HWL.out] at HU
        obtain ⟨n6, hn6⟩ : ∃ n6, wl.length = n6 := ⟨_, rfl⟩
        rw [hn6] at HU
        have hrd6 := Rd1.of_buf hB6
        obtain ⟨A6, c6, rfl, -, -⟩ := id hrd6
        rw [List.length_map, hn6] at hrd6 ⊢
        have hn60 : n6 ≤ 60 := by
          have h1 := srtU_len (wantL vl so)
          have h2 := wantL_len vl so
          rw [HWL.out, hn6] at h1
          have := HI.out.2.2.2.2.2.2.1
          omega
        have hn6I : (n6 : Int) ≤ 60 := by omega
        have H6 := Lib.hid (And.intro hrd6 (And.intro (below_chain H4.out.2.1 (below_chain HB.out.1 hb6)) (And.intro hn6 hn60)))
        clear hrd6 hB6 hb6 hb36 hb26 hn6
        go_wp2_with fail
        refine HU.out.mono ?_
        rintro e w7 ⟨v7, rfl, hB7, hb7⟩
        have HA := Lib.hid (alive_any w7)
        have H7 := Lib.hid (And.intro (Rd1.of_buf hB7) hb7)
        clear hB7 hb7
        go_wp2_with fail
        refine HA.out.mono ?_
        rintro e w8 ⟨rfl, hb8⟩
        have hb68 := below_chain H7.out.2 hb8
        have HQ := Lib.hid (eq_u32 (xs := wl) (ys := wl) (W := w8) (H7.out.1.below hb8 (Nat.le_refl _)) (H6.out.1.below hb68 (Nat.le_refl _)) (by have := H6.out.2.2; omega) (by have := H6.out.2.2; omega))
        rw [decide_eq_true rfl] at HQ
        have H8 := Lib.hid (below_chain H6.out.2.1 hb68)
        clear hb8 hb68
        rcases Nat.eq_zero_or_pos n6 with hz | hz
        · subst hz
          go_wp2_with fail
          refine HQ.out.mono ?_
          rintro e w9 ⟨rfl, q2, rfl⟩
          go_wp2_with fail
          go_ret
          exact ⟨by simp, H8.out.trans (below_drewN _ _)⟩
        · have hzI : (0 : Int) < (n6 : Int) := by omega
          have hzd : decide (0 < n6) = true := decide_eq_true hz
          go_wp2_with fail
          refine HQ.out.mono ?_
          rintro e w9 ⟨rfl, q2, rfl⟩
          go_wp2_with fail
          go_ret
          exact ⟨by simp [hz], H8.out.trans (below_drewN _ _)⟩
end Go.Proofs.YtlfpefebocepfaaGreat
