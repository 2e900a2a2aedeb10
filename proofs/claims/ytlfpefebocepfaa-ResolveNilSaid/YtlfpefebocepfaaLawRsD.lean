/- ResolveNil: the law's own walk. -/
import Derived.Test.YtlfpefebocepfaaLawRsC
import Derived.Test.YtlfpefebocepfaaSetW
set_option linter.unusedVariables false
set_option linter.unusedSimpArgs false
namespace Go.Proofs.Ytlfpefebocepfaa
open Go Go.RowKit Go.Shelf Go.Lib Go.Sort

theorem pos_nil (u : Int) : posU [] u = 0 := by
  unfold posU cntU
  simp
theorem set_nil (us : List Int) : grp (srtU (posL [] us)) = [] := by
  rw [grp_nil_iff]
  refine asc_ext (srtU_asc _) List.Pairwise.nil fun x => ?_
  rw [srtU_mem]
  constructor
  · rintro ⟨h, hx⟩
    obtain ⟨u, _, rfl⟩ := List.mem_map.1 h
    rw [pos_nil] at hx
    exact absurd rfl hx
  · intro h; simp at h
theorem valid_nil (l : List Rng) : validB ([] : List Int).length l = false := by unfold validB; simp
theorem nums_nil (l : List Rng) : numsOf ([] : List Int).length l = [] := by unfold numsOf; rw [valid_nil]; rfl
theorem uids_nil (l : List Rng) : uidsOf [] l = [] := by unfold uidsOf; rw [nums_nil]; rfl
theorem buf_none {W : World} {base size : Nat} {v : Value} {xs : List Value} (h : Buf W base size v 0 xs) : ∃ A c, v = .slice A 0 c := by
  rcases h.2 with ⟨rfl, _⟩ | ⟨g, off, cap, rfl, _⟩
  · exact ⟨_, _, rfl⟩
  · exact ⟨_, _, rfl⟩

set_option maxRecDepth 100000 in
set_option maxHeartbeats 3200000 in
theorem resolveNil_walk (l : List RB) (us : List Int) (vr vu : Value) (w : World) (hR : RgL w w.heap.size vr (l.map RB.rng)) (hU : U32 w w.heap.size vu us) (h0 : ∀ x ∈ us, 0 ≤ x) :
    Calls Try.prog 6 #[vr, vu] w fun e w' => e = .returned (.bool true) ∧ Below w.heap.size w w' := by
  have HF := Lib.hid (few_any vu vr us (l.map RB.rng) w hU hR)
  have hV : VwR w w.heap.size none [] := by first | exact rfl | exact .inl ⟨rfl, rfl⟩ | trivial
  cases hf : (decide (us.length ≤ 60) && decide ((l.map RB.rng).length ≤ 40)) with
  | false =>
    rw [hf] at HF
    have HA := Lib.hid (alive_any w)
    clear hf hU hR h0 hV
    go_enter Try.func6, Try.ntmps6
    go_wp2_with fail
    refine HF.out.mono ?_
    rintro e w' ⟨rfl, rfl⟩
    go_wp2_with fail
    refine HA.out.mono ?_
    rintro e w2 ⟨rfl, hb⟩
    have HB := Lib.hid hb
    clear hb
    go_wp2_with fail
    go_ret
    exact ⟨rfl, HB.out⟩
  | true =>
    rw [hf] at HF
    rw [Bool.and_eq_true, decide_eq_true_eq, decide_eq_true_eq, List.length_map] at hf
    obtain ⟨hu, hl⟩ := hf
    have HS := Lib.hid (seqs_any none [] l vr w hV hR (by decide) (by omega))
    rw [valid_nil, nums_nil] at HS
    have HW := Lib.hid (fun W (hb : Below w.heap.size w W) => uids_any none [] l vr W ((hV.below hb (Nat.le_refl _)).mono hb.size) ((hR.below hb (Nat.le_refl _)).mono hb.size) (by decide) (by omega))
    simp only [valid_nil, uids_nil] at HW
    have HT := Lib.hid (fun W (hb : Below w.heap.size w W) => set_any none [] us vu W ((hV.below hb (Nat.le_refl _)).mono hb.size) List.Pairwise.nil (by decide) ((hU.below hb (Nat.le_refl _)).mono hb.size) (by omega))
    simp only [set_nil] at HT
    clear hV hU hR h0 hu hl
    go_enter Try.func6, Try.ntmps6
    go_wp2_with fail
    refine HF.out.mono ?_
    rintro e w' ⟨rfl, rfl⟩
    go_wp2_with fail
    refine HS.out.mono ?_
    rintro e w1 ⟨v1, rfl, hB1, hb1⟩
    obtain ⟨A1, c1, rfl⟩ := buf_none hB1
    have HU := Lib.hid (HW.out w1 hb1)
    have H1 := Lib.hid hb1
    clear hB1 hb1
    go_wp2_with fail
    refine HU.out.mono ?_
    rintro e w2 ⟨v2, rfl, hB2, hb2⟩
    obtain ⟨A2, c2, rfl⟩ := buf_none hB2
    have HA := Lib.hid (alive_any w2)
    have H2 := Lib.hid (below_chain H1.out hb2)
    clear hB2 hb2
    go_wp2_with fail
    refine HA.out.mono ?_
    rintro e w3 ⟨rfl, hb3⟩
    have hb03 := below_chain H2.out hb3
    have HQ := Lib.hid (HT.out w3 hb03)
    have H3 := Lib.hid hb03
    clear hb3 hb03
    go_wp2_with fail
    refine HQ.out.mono ?_
    rintro e w4 ⟨v4, rfl, hB4, hb4⟩
    obtain ⟨A4, c4, rfl⟩ := buf_none hB4
    have H4 := Lib.hid (below_chain H3.out hb4)
    clear hB4 hb4
    go_wp2_with fail
    go_ret
    exact ⟨rfl, H4.out⟩
end Go.Proofs.Ytlfpefebocepfaa
