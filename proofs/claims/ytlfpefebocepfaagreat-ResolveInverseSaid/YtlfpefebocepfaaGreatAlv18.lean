/- The example of the chapter holds. -/
import Derived.Test.YtlfpefebocepfaaGreatEqW
import Derived.Test.YtlfpefebocepfaaGreatSeqW
import Derived.Test.YtlfpefebocepfaaGreatStrW
set_option linter.unusedVariables false
set_option linter.unusedSimpArgs false
namespace Go.Proofs.YtlfpefebocepfaaGreat
open Go Go.RowKit Go.Shelf Go.Lib Go.Sort

theorem few_any (vu vr : Value) (us : List Int) (l : List Rng) (w : World) {B1 B2 : Nat} (hU : U32 w B1 vu us) (hR : RgL w B2 vr l) :
    Calls Tryz.prog 4 #[vu, vr] w fun e w' => e = .returned (.bool (decide (us.length ≤ 60) && decide (l.length ≤ 40))) ∧ w' = w := by
  obtain ⟨A1, cap1, rfl, -, -⟩ := hU
  obtain ⟨A2, cap2, rfl, -, -⟩ := hR
  generalize us.length = n
  generalize l.length = m
  have e1 : decide ((n : Int) ≤ 60) = decide (n ≤ 60) := by
    by_cases h : n ≤ 60
    · rw [decide_eq_true h, decide_eq_true (by omega)]
    · rw [decide_eq_false h, decide_eq_false (by omega)]
  have e2 : decide ((m : Int) ≤ 40) = decide (m ≤ 40) := by
    by_cases h : m ≤ 40
    · rw [decide_eq_true h, decide_eq_true (by omega)]
    · rw [decide_eq_false h, decide_eq_false (by omega)]
  by_cases h : n ≤ 60
  · have hI : (n : Int) ≤ 60 := by omega
    have HD := Lib.hid (And.intro e2 (decide_eq_true h))
    by_cases h2 : m ≤ 40
    · have h2I : (m : Int) ≤ 40 := by omega
      go_enter Tryz.func4, Tryz.ntmps4
      go_wp2_with fail
      go_ret
      exact ⟨by simp [h, h2], rfl⟩
    · have h2I : ¬ ((m : Int) ≤ 40) := by omega
      have h2d : decide ((m : Int) ≤ 40) = false := decide_eq_false h2I
      go_enter Tryz.func4, Tryz.ntmps4
      go_wp2_with fail
      go_ret
      exact ⟨by simp [h, h2], rfl⟩
  · have hI : ¬ ((n : Int) ≤ 60) := by omega
    have hd : decide ((n : Int) ≤ 60) = false := decide_eq_false hI
    go_enter Tryz.func4, Tryz.ntmps4
    go_wp2_with fail
    go_ret
    exact ⟨by simp [h], rfl⟩

theorem rd_lit (w : World) (T : TypeId) (vs : List Value) : Rd1 (w.alloc (.cells vs.toArray T)) (w.heap.size + 1) (.slice (some ⟨w.heap.size, 0, none⟩) vs.length vs.length) vs :=
  ⟨_, _, rfl, Nat.le_refl _, fun _ => ⟨_, _, rfl, by omega, fun j u hj => by
    have := (Blk.made w T vs.toArray).cell j
    rw [Nat.zero_add, this]
    simpa using hj⟩⟩
theorem u32_lit (w : World) (T : TypeId) (xs : List Int) : U32 (w.alloc (.cells (xs.map (Value.int .u32)).toArray T)) (w.heap.size + 1) (.slice (some ⟨w.heap.size, 0, none⟩) xs.length xs.length) xs :=
  ⟨_, _, rfl, Nat.le_refl _, fun _ => ⟨_, _, rfl, by omega, fun j u hj => by
    have := (Blk.made w T (xs.map (Value.int .u32)).toArray).cell j
    rw [Nat.zero_add, this]
    simp [hj]⟩⟩
theorem rg_one (w : World) (T : TypeId) (x : RB) : RgL (w.alloc (.cells #[.int .u32 x.rng.lo, .int .u32 x.rng.hi] T)) (w.heap.size + 1) (.slice (some ⟨w.heap.size, 0, none⟩) 1 1) [x.rng] :=
  ⟨_, _, rfl, Nat.le_refl _, fun _ => ⟨_, _, rfl, by omega, fun j r hj => by
    have h := Blk.made w T #[.int .u32 x.rng.lo, .int .u32 x.rng.hi]
    cases j with
    | zero =>
      simp at hj
      subst hj
      exact ⟨h.cell 0, h.cell 1⟩
    | succ j => simp at hj⟩⟩
theorem ex_srt : srtU [3, 5, 9] = [3, 5, 9] := by decide
theorem ex_valid : validB [(3 : Int), 5, 9].length [⟨2, 0⟩] = true := by decide
theorem ex_uids : uidsOf [3, 5, 9] [⟨2, 0⟩] = [5, 9] := by decide
theorem ex_str : stripeL 4 [5, 9] = [1] := asc_ext (stripeL_spec _ _).1 (by simp [asc]) (fun x => by
  rw [(stripeL_spec _ _).2]
  constructor
  · rintro ⟨u, hu, rfl⟩
    simp at hu
    rcases hu with rfl | rfl <;> decide
  · intro h
    simp at h
    subst h
    exact ⟨5, by simp, by decide⟩)
set_option maxRecDepth 100000 in
set_option maxHeartbeats 1600000 in
theorem alive_any (w : World) : Calls Tryz.prog 5 #[] w fun e w' => e = .returned (.bool true) ∧ Below w.heap.size w w' := by
  have HV := Lib.hid (vnew_any [3, 5, 9] (some ⟨w.heap.size, 0, none⟩) 3 (w.alloc (.cells #[.int .u32 3, .int .u32 5, .int .u32 9] 31)) ((u32_lit w 31 [3, 5, 9]).mono (by rw [World.size_alloc]; exact Nat.le_refl _)) (by decide) (by decide))
  rw [ex_srt] at HV
  have hb0 : Below w.heap.size w (w.alloc (.cells #[.int .u32 3, .int .u32 5, .int .u32 9] 31)) := (Below.refl _ w).alloc (Nat.le_refl _) _
  have HB0 := Lib.hid hb0
  clear hb0
  go_enter Tryz.func5, Tryz.ntmps5
  go_wp2_with fail
  refine HV.out.mono ?_
  rintro e w1 ⟨p, rfl, h1, h2⟩
  have hbA : Below w.heap.size w w1 := HB0.out.trans (h2.mono HB0.out.size)
  have hb1 : Below w1.heap.size w1 (w1.alloc (.cells #[.int .u32 2, .int .u32 0] 33)) := (Below.refl _ w1).alloc (Nat.le_refl _) _
  have HU := Lib.hid (uids_any p [3, 5, 9] [(2, 0)] (.slice (some ⟨w1.heap.size, 0, none⟩) 1 1) (w1.alloc (.cells #[.int .u32 2, .int .u32 0] 33)) ((h1.below hb1 (Nat.le_refl _)).mono hb1.size) ((rg_one w1 33 (2, 0)).mono (by rw [World.size_alloc]; exact Nat.le_refl _)) (by decide) (by decide))
  rw [show ([((2, 0) : RB)].map RB.rng) = [⟨2, 0⟩] from rfl, ex_valid, ex_uids] at HU
  have HA := Lib.hid (And.intro hbA hb1)
  clear h1 h2 hbA hb1
  go_wp2_with fail
  refine HU.out.mono ?_
  rintro e w2 ⟨v2, rfl, h3, h4⟩
  have hbB : Below w.heap.size w w2 := (HA.out.1.trans (HA.out.2.mono HA.out.1.size)).trans (h4.mono (by have := HA.out.1.size; have := HA.out.2.size; omega))
  have hb2 : Below w2.heap.size w2 (w2.alloc (.cells #[.int .u32 5, .int .u32 9] 31)) := (Below.refl _ w2).alloc (Nat.le_refl _) _
  have hrd : Rd1 w2 w2.heap.size v2 ([5, 9].map (Value.int .u32)) := Rd1.of_buf h3
  have hu : U32 w2 w2.heap.size v2 [5, 9] := U32.of_buf h3
  have HE := Lib.hid (eq_u32 (ys := [5, 9]) (hrd.below hb2 (Nat.le_refl _)) (rd_lit w2 31 [.int .u32 5, .int .u32 9]) (by decide) (by decide))
  rw [decide_eq_true (show ([5, 9] : List Int) = [5, 9] from rfl)] at HE
  have H2 := Lib.hid (And.intro hbB (And.intro hb2 hu))
  clear h3 h4 hbB hb2 hrd hu
  go_wp2_with fail
  refine HE.out.mono ?_
  rintro e w3 ⟨rfl, q, rfl⟩
  have hb3 : Below w2.heap.size w2 ((w2.alloc (.cells #[.int .u32 5, .int .u32 9] 31)).drewN q) := H2.out.2.1.trans (below_drewN _ _)
  have HS := Lib.hid (stripes_any 4 (by decide) (by decide) [5, 9] v2 _ ((H2.out.2.2.below hb3 (Nat.le_refl _)).mono hb3.size) (by decide) (by decide))
  rw [ex_str] at HS
  have H3 := Lib.hid hb3
  clear hb3
  go_wp2_with fail
  refine HS.out.mono ?_
  rintro e w4 ⟨v4, rfl, h5, h6⟩
  have hb4 : Below w4.heap.size w4 (w4.alloc (.cells #[.int .i64 1] 3)) := (Below.refl _ w4).alloc (Nat.le_refl _) _
  have hrd4 : Rd1 w4 w4.heap.size v4 ([1].map (Value.int .i64)) := Rd1.of_buf h5
  have HF := Lib.hid (eq_i64 (ys := [1]) (hrd4.below hb4 (Nat.le_refl _)) (rd_lit w4 3 [.int .i64 1]) (by decide) (by decide))
  rw [decide_eq_true (show ([1] : List Int) = [1] from rfl)] at HF
  have hs2 := H2.out.1.size
  have hs3 := H3.out.size
  have hbD : Below w.heap.size w w4 := (H2.out.1.trans (H3.out.mono hs2)).trans (h6.mono (by omega))
  have H4 := Lib.hid (And.intro hbD hb4)
  clear h5 h6 hb4 hrd4 hs2 hs3 hbD
  go_wp2_with fail
  refine HF.out.mono ?_
  rintro e w5 ⟨rfl, q5, rfl⟩
  go_wp2_with fail
  go_ret
  exact ⟨rfl, (H4.out.1.trans (H4.out.2.mono H4.out.1.size)).trans (below_drewN _ _)⟩
end Go.Proofs.YtlfpefebocepfaaGreat
