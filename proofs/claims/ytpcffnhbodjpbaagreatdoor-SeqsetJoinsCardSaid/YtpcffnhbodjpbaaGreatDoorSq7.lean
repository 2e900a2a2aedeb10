/- SeqsetHas and SeqsetJoins: the laws' own walks. -/
import Derived.Test.YtpcffnhbodjpbaaGreatDoorSq4
import Derived.Test.YtpcffnhbodjpbaaGreatDoorHasW
import Derived.Test.YtpcffnhbodjpbaaGreatDoorConc
set_option linter.unusedVariables false
set_option linter.unusedSimpArgs false
namespace Go.Proofs.YtpcffnhbodjpbaaGreatDoor
open Go Go.RowKit Go.Shelf Go.Lib Go.Sort

theorem has_bound {top x : Nat} {l : List Rng} (h : hasB top x l = true) : 1 ≤ x ∧ x ≤ top := by
  unfold hasB at h
  rw [Bool.and_eq_true] at h
  obtain ⟨hv, ha⟩ := h
  have h0 : 0 < top := by
    unfold validB at hv
    simp only [Bool.and_eq_true, decide_eq_true_eq] at hv
    exact hv.1.1
  obtain ⟨r, hr, hi⟩ := List.any_eq_true.1 ha
  obtain ⟨h1, h2⟩ := valid_mem hv r hr
  have hp := plain_le h1 h2
  unfold inR at hi
  rw [Bool.and_eq_true, decide_eq_true_eq, decide_eq_true_eq] at hi
  refine ⟨?_, by omega⟩
  have : 0 < (plainR top r).lo := by
    unfold plainR realN
    simp only
    split <;> split <;> omega
  omega
theorem valid_app {top : Nat} {a b : List Rng} (ha : validB top a = true) (hb : validB top b = true) : validB top (a ++ b) = true := by
  unfold validB at *
  simp only [Bool.and_eq_true, decide_eq_true_eq, Bool.not_eq_true', List.all_append] at *
  refine ⟨⟨ha.1.1, ?_⟩, ha.2, hb.2⟩
  cases a with
  | nil => simp at ha
  | cons x t => rfl
theorem has_app {top x : Nat} {a b : List Rng} (ha : validB top a = true) (hb : validB top b = true) : hasB top x (a ++ b) = (hasB top x a || hasB top x b) := by
  unfold hasB
  rw [valid_app ha hb, ha, hb, List.any_append]
  simp

set_option maxRecDepth 100000 in
set_option maxHeartbeats 3200000 in
theorem seqsetHas_walk (top x : Nat) (l : List RB) (v : Value) (w : World) (ht : top < 4294967296) (_ : x < 4294967296) (hR : RgL w w.heap.size v (l.map RB.rng)) (hS : Std w) (hM : StdM w) :
    Calls Tryz.prog 6 #[.int .u32 top, .int .u32 x, v] w fun e w' => e = .returned (.bool true) ∧ Below w.heap.size w w' := by
  obtain ⟨A, cap, rfl, -, -⟩ := id hR
  rw [List.length_map] at hR ⊢
  obtain ⟨n, hn⟩ : ∃ n, l.length = n := ⟨_, rfl⟩
  rw [hn] at hR ⊢
  have HA := Lib.hid (fun W (hb : Below w.heap.size w W) => alive_any W (hS.below hb) (hM.below hb))
  by_cases h60 : n ≤ 60
  · have HF := Lib.hid (few_yes n cap A w h60)
    have hlm : (l.map RB.rng).length = n := by rw [List.length_map, hn]
    have HV := Lib.hid (fun W (hb : Below w.heap.size w W) => valid_any top (l.map RB.rng) (.slice A n cap) W ((hR.below hb (Nat.le_refl _)).mono hb.size) (by omega))
    have HW := Lib.hid (fun W (hb : Below w.heap.size w W) => ref_valid top (l.map RB.rng) (.slice A n cap) W ((hR.below hb (Nat.le_refl _)).mono hb.size) (by omega))
    have HH := Lib.hid (fun W (hb : Below w.heap.size w W) => has_any top x ht l (.slice A n cap) W ((hR.below hb (Nat.le_refl _)).mono hb.size) (by omega))
    have HG := Lib.hid (fun W (hb : Below w.heap.size w W) => ref_has top x (l.map RB.rng) (.slice A n cap) W ((hR.below hb (Nat.le_refl _)).mono hb.size) (by omega))
    have hbd := has_bound (top := top) (x := x) (l := l.map RB.rng)
    generalize hasB top x (l.map RB.rng) = h at HH HG hbd
    generalize validB top (l.map RB.rng) = vb at HV HW
    have hbb : (vb == vb) = true := by simp
    have HBD := Lib.hid hbd
    clear hR hS hM ht hn h60 hlm hbd
    cases h with
    | false =>
      clear HBD
      go_enter Tryz.func6, Tryz.ntmps6
      go_wp2_with fail
      refine HF.out.mono ?_
      rintro e w1 ⟨rfl, rfl⟩
      have H1 := Lib.hid (Below.refl w.heap.size w)
      go_wp2_with fail
      refine (HA.out _ H1.out).mono ?_
      rintro e w2 ⟨rfl, hb2⟩
      have H2 := Lib.hid (H1.out.trans (hb2.mono H1.out.size))
      clear hb2
      go_wp2_with fail
      refine (HH.out _ H2.out).mono ?_
      rintro e w3 ⟨rfl, hb3⟩
      have H3 := Lib.hid (H2.out.trans (hb3.mono H2.out.size))
      clear hb3
      go_wp2_with fail
      refine (HG.out _ H3.out).mono ?_
      rintro e w4 ⟨rfl, e4⟩
      have H4 : Hid (Below w.heap.size w w4) := Lib.hid (by rw [e4]; exact H3.out)
      clear e4
      go_wp2_with fail
      refine (HV.out _ H4.out).mono ?_
      rintro e w5 ⟨rfl, hb5⟩
      have H5 := Lib.hid (H4.out.trans (hb5.mono H4.out.size))
      clear hb5
      go_wp2_with fail
      refine (HW.out _ H5.out).mono ?_
      rintro e w6 ⟨rfl, e6⟩
      have H6 : Hid (Below w.heap.size w w6) := Lib.hid (by rw [e6]; exact H5.out)
      clear e6
      go_wp2_with fail
      refine (HH.out _ H6.out).mono ?_
      rintro e w7 ⟨rfl, hb7⟩
      have H7 := Lib.hid (H6.out.trans (hb7.mono H6.out.size))
      clear hb7
      go_wp2_with fail
      go_ret
      exact ⟨by first | rfl | (simp; done), H7.out⟩
    | true =>
      obtain ⟨h1, h2⟩ := HBD.out rfl
      have h1I : (1 : Int) ≤ x := by omega
      have h1d : decide ((1 : Int) ≤ (x : Int)) = true := decide_eq_true h1I
      have h2I : (x : Int) ≤ top := by omega
      have h2d : decide ((x : Int) ≤ (top : Int)) = true := decide_eq_true h2I
      clear h1 h2
      clear HBD
      go_enter Tryz.func6, Tryz.ntmps6
      go_wp2_with fail
      refine HF.out.mono ?_
      rintro e w1 ⟨rfl, rfl⟩
      have H1 := Lib.hid (Below.refl w.heap.size w)
      go_wp2_with fail
      refine (HA.out _ H1.out).mono ?_
      rintro e w2 ⟨rfl, hb2⟩
      have H2 := Lib.hid (H1.out.trans (hb2.mono H1.out.size))
      clear hb2
      go_wp2_with fail
      refine (HH.out _ H2.out).mono ?_
      rintro e w3 ⟨rfl, hb3⟩
      have H3 := Lib.hid (H2.out.trans (hb3.mono H2.out.size))
      clear hb3
      go_wp2_with fail
      refine (HG.out _ H3.out).mono ?_
      rintro e w4 ⟨rfl, e4⟩
      have H4 : Hid (Below w.heap.size w w4) := Lib.hid (by rw [e4]; exact H3.out)
      clear e4
      go_wp2_with fail
      refine (HV.out _ H4.out).mono ?_
      rintro e w5 ⟨rfl, hb5⟩
      have H5 := Lib.hid (H4.out.trans (hb5.mono H4.out.size))
      clear hb5
      go_wp2_with fail
      refine (HW.out _ H5.out).mono ?_
      rintro e w6 ⟨rfl, e6⟩
      have H6 : Hid (Below w.heap.size w w6) := Lib.hid (by rw [e6]; exact H5.out)
      clear e6
      go_wp2_with fail
      refine (HH.out _ H6.out).mono ?_
      rintro e w7 ⟨rfl, hb7⟩
      have H7 := Lib.hid (H6.out.trans (hb7.mono H6.out.size))
      clear hb7
      go_wp2_with fail
      go_ret
      exact ⟨by first | rfl | (simp; done), H7.out⟩
  · have HF := Lib.hid (few_no n cap A w h60)
    clear hR hS hM ht hn h60
    go_enter Tryz.func6, Tryz.ntmps6
    go_wp2_with fail
    refine HF.out.mono ?_
    rintro e w1 ⟨rfl, rfl⟩
    go_wp2_with fail
    refine (HA.out _ (Below.refl _ _)).mono ?_
    rintro e w2 ⟨rfl, hb2⟩
    have H2 := Lib.hid hb2
    clear hb2
    go_wp2_with fail
    go_ret
    exact ⟨rfl, H2.out⟩

set_option maxRecDepth 100000 in
set_option maxHeartbeats 6400000 in
theorem seqsetJoins_walk (top x : Nat) (a b : List RB) (va vb : Value) (w : World) (ht : top < 4294967296) (_ : x < 4294967296) (hA : RgL w w.heap.size va (a.map RB.rng)) (hB : RgL w w.heap.size vb (b.map RB.rng)) (hS : Std w) (hM : StdM w) :
    Calls Tryz.prog 7 #[.agg #[.int .u32 top, .int .u32 x], va, vb] w fun e w' => e = .returned (.bool true) ∧ Below w.heap.size w w' := by
  obtain ⟨Pa, ca, rfl, -, -⟩ := id hA
  obtain ⟨Pb, cb, rfl, -, -⟩ := id hB
  rw [List.length_map] at hA hB ⊢
  rw [List.length_map]
  obtain ⟨n, hn⟩ : ∃ n, a.length = n := ⟨_, rfl⟩
  obtain ⟨m, hm⟩ : ∃ m, b.length = m := ⟨_, rfl⟩
  rw [hn] at hA ⊢
  rw [hm] at hB ⊢
  have HA := Lib.hid (fun W (hb : Below w.heap.size w W) => alive_any W (hS.below hb) (hM.below hb))
  have hlm : (a.map RB.rng).length = n := by rw [List.length_map, hn]
  have hln : (b.map RB.rng).length = m := by rw [List.length_map, hm]
  have HX := Lib.hid (And.intro hA (And.intro hB (And.intro hn hm)))
  obtain ⟨g, hg⟩ : ∃ g, w.heap.size = g := ⟨_, rfl⟩
  have hb0 : Below w.heap.size w (w.alloc (.cells #[.int .u32 top, .int .u32 x] 48)) := (Below.refl _ w).alloc (Nat.le_refl _) _
  have hk0 : Blk (w.alloc (.cells #[.int .u32 top, .int .u32 x] 48)) g 48 #[.int .u32 top, .int .u32 x] := by rw [← hg]; exact Blk.made _ _ _
  have H0 := Lib.hid (And.intro hb0 hk0)
  have HGz := Lib.hid hg
  clear hb0 hk0 hS hM hn hm
  by_cases ha : ¬ n ≤ 60
  · have HFa := Lib.hid (fun W => few_no n ca Pa W ha)
    clear hA hB ht hlm hln ha
    go_enter Tryz.func7, Tryz.ntmps7
    go_upto_region 1 with fail
    try clear hg
    refine region_anyC (fun W => Blk W g 48 #[.int .u32 top, .int .u32 x]) (by kernel_rfl) ?_
    refine anyC_take (i := 0) (v := ?_) rfl (by kernel_rfl) (by kernel_rfl) (by kernel_rfl) (fun _ _ _ h => h) (H0.out.2) (Or.inl ⟨by rfl, ?_⟩) ?_
    rotate_left
    · intro W hW
      go_simp
      try with_reducible rfl
    try simp only [List.getElem_toArray, List.getElem_cons_zero, List.getElem_cons_succ, Act.put, List.setIfInBounds_toArray, List.set_cons_zero, List.set_cons_succ]
    refine anyC_take (i := 2) (v := ?_) rfl (by kernel_rfl) (by kernel_rfl) (by kernel_rfl) (fun _ _ _ h => h) (H0.out.2) (Or.inl ⟨by rfl, ?_⟩) ?_
    rotate_left
    · intro W hW
      go_simp
      try with_reducible rfl
    try simp only [List.getElem_toArray, List.getElem_cons_zero, List.getElem_cons_succ, Act.put, List.setIfInBounds_toArray, List.set_cons_zero, List.set_cons_succ]
    refine anyC_take (i := 1) (v := ?_) rfl (by kernel_rfl) (by kernel_rfl) (by kernel_rfl) (fun _ _ _ h => h) (H0.out.2) (Or.inl ⟨by rfl, ?_⟩) ?_
    rotate_left
    · intro W hW
      have x0 : W.cell? ⟨g, 0, none⟩ = some (.int .u32 top) := hW.cell 0
      have x1 : W.cell? ⟨g, 1, none⟩ = some (.int .u32 x) := hW.cell 1
      go_simp
      try with_reducible rfl
    try simp only [List.getElem_toArray, List.getElem_cons_zero, List.getElem_cons_succ, Act.put, List.setIfInBounds_toArray, List.set_cons_zero, List.set_cons_succ]
    refine anyC_take (i := 3) (v := ?_) rfl (by kernel_rfl) (by kernel_rfl) (by kernel_rfl) (fun _ _ _ h => h) (H0.out.2) (Or.inl ⟨by rfl, ?_⟩) ?_
    rotate_left
    · intro W hW
      have x0 : W.cell? ⟨g, 0, none⟩ = some (.int .u32 top) := hW.cell 0
      have x1 : W.cell? ⟨g, 1, none⟩ = some (.int .u32 x) := hW.cell 1
      go_simp
      try with_reducible rfl
    try simp only [List.getElem_toArray, List.getElem_cons_zero, List.getElem_cons_succ, Act.put, List.setIfInBounds_toArray, List.set_cons_zero, List.set_cons_succ]
    refine anyC_take (i := 4) (v := ?_) rfl (by kernel_rfl) (by kernel_rfl) (by kernel_rfl) (fun _ _ _ h => h) (H0.out.2) (Or.inl ⟨by rfl, ?_⟩) ?_
    rotate_left
    · intro W hW
      go_simp
      try with_reducible rfl
    try simp only [List.getElem_toArray, List.getElem_cons_zero, List.getElem_cons_succ, Act.put, List.setIfInBounds_toArray, List.set_cons_zero, List.set_cons_succ]
    refine anyC_take (i := 5) (v := ?_) rfl (by kernel_rfl) (by kernel_rfl) (by kernel_rfl) (fun _ _ _ h => h) (H0.out.2) (Or.inl ⟨by rfl, ?_⟩) ?_
    rotate_left
    · intro W hW
      go_simp
      try with_reducible rfl
    try simp only [List.getElem_toArray, List.getElem_cons_zero, List.getElem_cons_succ, Act.put, List.setIfInBounds_toArray, List.set_cons_zero, List.set_cons_succ]
    refine anyC_done (by kernel_rfl) ?_ _
    have H1 := Lib.hid (show Below w.heap.size w (w.alloc (.cells #[.int .u32 top, .int .u32 x] 48)).drew from Below.drew H0.out.1)
    go_wp2_with fail
    refine (HFa.out _).mono ?_
    rintro e w9 ⟨rfl, rfl⟩
    go_wp2_with fail
    refine (HA.out _ H1.out).mono ?_
    rintro e w8 ⟨rfl, hb8⟩
    have H8 := Lib.hid (H1.out.trans (hb8.mono H1.out.size))
    clear hb8
    go_wp2_with fail
    go_ret
    exact ⟨rfl, H8.out⟩
  replace ha := Decidable.not_not.1 ha
  have HFa := Lib.hid (fun W => few_yes n ca Pa W (by omega))
  by_cases hb : ¬ m ≤ 60
  · have HFb := Lib.hid (fun W => few_no m cb Pb W hb)
    clear hA hB ht hlm hln ha hb
    go_enter Tryz.func7, Tryz.ntmps7
    go_upto_region 1 with fail
    try clear hg
    refine region_anyC (fun W => Blk W g 48 #[.int .u32 top, .int .u32 x]) (by kernel_rfl) ?_
    refine anyC_take (i := 0) (v := ?_) rfl (by kernel_rfl) (by kernel_rfl) (by kernel_rfl) (fun _ _ _ h => h) (H0.out.2) (Or.inl ⟨by rfl, ?_⟩) ?_
    rotate_left
    · intro W hW
      go_simp
      try with_reducible rfl
    try simp only [List.getElem_toArray, List.getElem_cons_zero, List.getElem_cons_succ, Act.put, List.setIfInBounds_toArray, List.set_cons_zero, List.set_cons_succ]
    refine anyC_take (i := 2) (v := ?_) rfl (by kernel_rfl) (by kernel_rfl) (by kernel_rfl) (fun _ _ _ h => h) (H0.out.2) (Or.inl ⟨by rfl, ?_⟩) ?_
    rotate_left
    · intro W hW
      go_simp
      try with_reducible rfl
    try simp only [List.getElem_toArray, List.getElem_cons_zero, List.getElem_cons_succ, Act.put, List.setIfInBounds_toArray, List.set_cons_zero, List.set_cons_succ]
    refine anyC_take (i := 1) (v := ?_) rfl (by kernel_rfl) (by kernel_rfl) (by kernel_rfl) (fun _ _ _ h => h) (H0.out.2) (Or.inl ⟨by rfl, ?_⟩) ?_
    rotate_left
    · intro W hW
      have x0 : W.cell? ⟨g, 0, none⟩ = some (.int .u32 top) := hW.cell 0
      have x1 : W.cell? ⟨g, 1, none⟩ = some (.int .u32 x) := hW.cell 1
      go_simp
      try with_reducible rfl
    try simp only [List.getElem_toArray, List.getElem_cons_zero, List.getElem_cons_succ, Act.put, List.setIfInBounds_toArray, List.set_cons_zero, List.set_cons_succ]
    refine anyC_take (i := 3) (v := ?_) rfl (by kernel_rfl) (by kernel_rfl) (by kernel_rfl) (fun _ _ _ h => h) (H0.out.2) (Or.inl ⟨by rfl, ?_⟩) ?_
    rotate_left
    · intro W hW
      have x0 : W.cell? ⟨g, 0, none⟩ = some (.int .u32 top) := hW.cell 0
      have x1 : W.cell? ⟨g, 1, none⟩ = some (.int .u32 x) := hW.cell 1
      go_simp
      try with_reducible rfl
    try simp only [List.getElem_toArray, List.getElem_cons_zero, List.getElem_cons_succ, Act.put, List.setIfInBounds_toArray, List.set_cons_zero, List.set_cons_succ]
    refine anyC_take (i := 4) (v := ?_) rfl (by kernel_rfl) (by kernel_rfl) (by kernel_rfl) (fun _ _ _ h => h) (H0.out.2) (Or.inl ⟨by rfl, ?_⟩) ?_
    rotate_left
    · intro W hW
      go_simp
      try with_reducible rfl
    try simp only [List.getElem_toArray, List.getElem_cons_zero, List.getElem_cons_succ, Act.put, List.setIfInBounds_toArray, List.set_cons_zero, List.set_cons_succ]
    refine anyC_take (i := 5) (v := ?_) rfl (by kernel_rfl) (by kernel_rfl) (by kernel_rfl) (fun _ _ _ h => h) (H0.out.2) (Or.inl ⟨by rfl, ?_⟩) ?_
    rotate_left
    · intro W hW
      go_simp
      try with_reducible rfl
    try simp only [List.getElem_toArray, List.getElem_cons_zero, List.getElem_cons_succ, Act.put, List.setIfInBounds_toArray, List.set_cons_zero, List.set_cons_succ]
    refine anyC_done (by kernel_rfl) ?_ _
    have H1 := Lib.hid (show Below w.heap.size w (w.alloc (.cells #[.int .u32 top, .int .u32 x] 48)).drew from Below.drew H0.out.1)
    go_wp2_with fail
    refine (HFa.out _).mono ?_
    rintro e w9 ⟨rfl, rfl⟩
    go_wp2_with fail
    refine (HFb.out _).mono ?_
    rintro e w9 ⟨rfl, rfl⟩
    go_wp2_with fail
    refine (HA.out _ H1.out).mono ?_
    rintro e w8 ⟨rfl, hb8⟩
    have H8 := Lib.hid (H1.out.trans (hb8.mono H1.out.size))
    clear hb8
    go_wp2_with fail
    go_ret
    exact ⟨rfl, H8.out⟩
  replace hb := Decidable.not_not.1 hb
  have HFb := Lib.hid (fun W => few_yes m cb Pb W (by omega))
  have HVa := Lib.hid (fun W (hb : Below w.heap.size w W) => ref_valid top (a.map RB.rng) (.slice Pa n ca) W ((HX.out.1.below hb (Nat.le_refl _)).mono hb.size) (by omega))
  have HVb := Lib.hid (fun W (hb : Below w.heap.size w W) => ref_valid top (b.map RB.rng) (.slice Pb m cb) W ((HX.out.2.1.below hb (Nat.le_refl _)).mono hb.size) (by omega))
  cases hva : validB top (a.map RB.rng) with
  | false =>
    rw [hva] at HVa
    clear hA hB ht hlm hln ha hb hva
    go_enter Tryz.func7, Tryz.ntmps7
    go_upto_region 1 with fail
    try clear hg
    refine region_anyC (fun W => Blk W g 48 #[.int .u32 top, .int .u32 x]) (by kernel_rfl) ?_
    refine anyC_take (i := 0) (v := ?_) rfl (by kernel_rfl) (by kernel_rfl) (by kernel_rfl) (fun _ _ _ h => h) (H0.out.2) (Or.inl ⟨by rfl, ?_⟩) ?_
    rotate_left
    · intro W hW
      go_simp
      try with_reducible rfl
    try simp only [List.getElem_toArray, List.getElem_cons_zero, List.getElem_cons_succ, Act.put, List.setIfInBounds_toArray, List.set_cons_zero, List.set_cons_succ]
    refine anyC_take (i := 2) (v := ?_) rfl (by kernel_rfl) (by kernel_rfl) (by kernel_rfl) (fun _ _ _ h => h) (H0.out.2) (Or.inl ⟨by rfl, ?_⟩) ?_
    rotate_left
    · intro W hW
      go_simp
      try with_reducible rfl
    try simp only [List.getElem_toArray, List.getElem_cons_zero, List.getElem_cons_succ, Act.put, List.setIfInBounds_toArray, List.set_cons_zero, List.set_cons_succ]
    refine anyC_take (i := 1) (v := ?_) rfl (by kernel_rfl) (by kernel_rfl) (by kernel_rfl) (fun _ _ _ h => h) (H0.out.2) (Or.inl ⟨by rfl, ?_⟩) ?_
    rotate_left
    · intro W hW
      have x0 : W.cell? ⟨g, 0, none⟩ = some (.int .u32 top) := hW.cell 0
      have x1 : W.cell? ⟨g, 1, none⟩ = some (.int .u32 x) := hW.cell 1
      go_simp
      try with_reducible rfl
    try simp only [List.getElem_toArray, List.getElem_cons_zero, List.getElem_cons_succ, Act.put, List.setIfInBounds_toArray, List.set_cons_zero, List.set_cons_succ]
    refine anyC_take (i := 3) (v := ?_) rfl (by kernel_rfl) (by kernel_rfl) (by kernel_rfl) (fun _ _ _ h => h) (H0.out.2) (Or.inl ⟨by rfl, ?_⟩) ?_
    rotate_left
    · intro W hW
      have x0 : W.cell? ⟨g, 0, none⟩ = some (.int .u32 top) := hW.cell 0
      have x1 : W.cell? ⟨g, 1, none⟩ = some (.int .u32 x) := hW.cell 1
      go_simp
      try with_reducible rfl
    try simp only [List.getElem_toArray, List.getElem_cons_zero, List.getElem_cons_succ, Act.put, List.setIfInBounds_toArray, List.set_cons_zero, List.set_cons_succ]
    refine anyC_take (i := 4) (v := ?_) rfl (by kernel_rfl) (by kernel_rfl) (by kernel_rfl) (fun _ _ _ h => h) (H0.out.2) (Or.inl ⟨by rfl, ?_⟩) ?_
    rotate_left
    · intro W hW
      go_simp
      try with_reducible rfl
    try simp only [List.getElem_toArray, List.getElem_cons_zero, List.getElem_cons_succ, Act.put, List.setIfInBounds_toArray, List.set_cons_zero, List.set_cons_succ]
    refine anyC_take (i := 5) (v := ?_) rfl (by kernel_rfl) (by kernel_rfl) (by kernel_rfl) (fun _ _ _ h => h) (H0.out.2) (Or.inl ⟨by rfl, ?_⟩) ?_
    rotate_left
    · intro W hW
      go_simp
      try with_reducible rfl
    try simp only [List.getElem_toArray, List.getElem_cons_zero, List.getElem_cons_succ, Act.put, List.setIfInBounds_toArray, List.set_cons_zero, List.set_cons_succ]
    refine anyC_done (by kernel_rfl) ?_ _
    have H1 := Lib.hid (show Below w.heap.size w (w.alloc (.cells #[.int .u32 top, .int .u32 x] 48)).drew from Below.drew H0.out.1)
    go_wp2_with fail
    refine (HFa.out _).mono ?_
    rintro e w9 ⟨rfl, rfl⟩
    go_wp2_with fail
    refine (HFb.out _).mono ?_
    rintro e w9 ⟨rfl, rfl⟩
    go_wp2_with fail
    refine (HVa.out _ H1.out).mono ?_
    rintro e w2 ⟨rfl, e2⟩
    have H2 : Hid (Below w.heap.size w w2) := Lib.hid (by rw [e2]; exact H1.out)
    clear e2
    go_wp2_with fail
    refine (HA.out _ H2.out).mono ?_
    rintro e w8 ⟨rfl, hb8⟩
    have H8 := Lib.hid (H2.out.trans (hb8.mono H2.out.size))
    clear hb8
    go_wp2_with fail
    go_ret
    exact ⟨rfl, H8.out⟩
  | true =>
    rw [hva] at HVa
    cases hvb : validB top (b.map RB.rng) with
    | false =>
      rw [hvb] at HVb
      clear hA hB ht hlm hln ha hb hva hvb
      go_enter Tryz.func7, Tryz.ntmps7
      go_upto_region 1 with fail
      try clear hg
      refine region_anyC (fun W => Blk W g 48 #[.int .u32 top, .int .u32 x]) (by kernel_rfl) ?_
      refine anyC_take (i := 0) (v := ?_) rfl (by kernel_rfl) (by kernel_rfl) (by kernel_rfl) (fun _ _ _ h => h) (H0.out.2) (Or.inl ⟨by rfl, ?_⟩) ?_
      rotate_left
      · intro W hW
        go_simp
        try with_reducible rfl
      try simp only [List.getElem_toArray, List.getElem_cons_zero, List.getElem_cons_succ, Act.put, List.setIfInBounds_toArray, List.set_cons_zero, List.set_cons_succ]
      refine anyC_take (i := 2) (v := ?_) rfl (by kernel_rfl) (by kernel_rfl) (by kernel_rfl) (fun _ _ _ h => h) (H0.out.2) (Or.inl ⟨by rfl, ?_⟩) ?_
      rotate_left
      · intro W hW
        go_simp
        try with_reducible rfl
      try simp only [List.getElem_toArray, List.getElem_cons_zero, List.getElem_cons_succ, Act.put, List.setIfInBounds_toArray, List.set_cons_zero, List.set_cons_succ]
      refine anyC_take (i := 1) (v := ?_) rfl (by kernel_rfl) (by kernel_rfl) (by kernel_rfl) (fun _ _ _ h => h) (H0.out.2) (Or.inl ⟨by rfl, ?_⟩) ?_
      rotate_left
      · intro W hW
        have x0 : W.cell? ⟨g, 0, none⟩ = some (.int .u32 top) := hW.cell 0
        have x1 : W.cell? ⟨g, 1, none⟩ = some (.int .u32 x) := hW.cell 1
        go_simp
        try with_reducible rfl
      try simp only [List.getElem_toArray, List.getElem_cons_zero, List.getElem_cons_succ, Act.put, List.setIfInBounds_toArray, List.set_cons_zero, List.set_cons_succ]
      refine anyC_take (i := 3) (v := ?_) rfl (by kernel_rfl) (by kernel_rfl) (by kernel_rfl) (fun _ _ _ h => h) (H0.out.2) (Or.inl ⟨by rfl, ?_⟩) ?_
      rotate_left
      · intro W hW
        have x0 : W.cell? ⟨g, 0, none⟩ = some (.int .u32 top) := hW.cell 0
        have x1 : W.cell? ⟨g, 1, none⟩ = some (.int .u32 x) := hW.cell 1
        go_simp
        try with_reducible rfl
      try simp only [List.getElem_toArray, List.getElem_cons_zero, List.getElem_cons_succ, Act.put, List.setIfInBounds_toArray, List.set_cons_zero, List.set_cons_succ]
      refine anyC_take (i := 4) (v := ?_) rfl (by kernel_rfl) (by kernel_rfl) (by kernel_rfl) (fun _ _ _ h => h) (H0.out.2) (Or.inl ⟨by rfl, ?_⟩) ?_
      rotate_left
      · intro W hW
        go_simp
        try with_reducible rfl
      try simp only [List.getElem_toArray, List.getElem_cons_zero, List.getElem_cons_succ, Act.put, List.setIfInBounds_toArray, List.set_cons_zero, List.set_cons_succ]
      refine anyC_take (i := 5) (v := ?_) rfl (by kernel_rfl) (by kernel_rfl) (by kernel_rfl) (fun _ _ _ h => h) (H0.out.2) (Or.inl ⟨by rfl, ?_⟩) ?_
      rotate_left
      · intro W hW
        go_simp
        try with_reducible rfl
      try simp only [List.getElem_toArray, List.getElem_cons_zero, List.getElem_cons_succ, Act.put, List.setIfInBounds_toArray, List.set_cons_zero, List.set_cons_succ]
      refine anyC_done (by kernel_rfl) ?_ _
      have H1 := Lib.hid (show Below w.heap.size w (w.alloc (.cells #[.int .u32 top, .int .u32 x] 48)).drew from Below.drew H0.out.1)
      go_wp2_with fail
      refine (HFa.out _).mono ?_
      rintro e w9 ⟨rfl, rfl⟩
      go_wp2_with fail
      refine (HFb.out _).mono ?_
      rintro e w9 ⟨rfl, rfl⟩
      go_wp2_with fail
      refine (HVa.out _ H1.out).mono ?_
      rintro e w2 ⟨rfl, e2⟩
      have H2 : Hid (Below w.heap.size w w2) := Lib.hid (by rw [e2]; exact H1.out)
      clear e2
      go_wp2_with fail
      refine (HVb.out _ H2.out).mono ?_
      rintro e w3 ⟨rfl, e3⟩
      have H3 : Hid (Below w.heap.size w w3) := Lib.hid (by rw [e3]; exact H2.out)
      clear e3
      go_wp2_with fail
      refine (HA.out _ H3.out).mono ?_
      rintro e w8 ⟨rfl, hb8⟩
      have H8 := Lib.hid (H3.out.trans (hb8.mono H3.out.size))
      clear hb8
      go_wp2_with fail
      go_ret
      exact ⟨rfl, H8.out⟩
    | true =>
      rw [hvb] at HVb
      have hap := has_app (x := x) hva hvb
      rw [← List.map_append] at hap
      have HHa := Lib.hid (fun W (hb : Below w.heap.size w W) => has_any top x ht a (.slice Pa n ca) W ((HX.out.1.below hb (Nat.le_refl _)).mono hb.size) (by have := HX.out.2.2; omega))
      have HHb := Lib.hid (fun W (hb : Below w.heap.size w W) => has_any top x ht b (.slice Pb m cb) W ((HX.out.2.1.below hb (Nat.le_refl _)).mono hb.size) (by have := HX.out.2.2; omega))
      have HGa := Lib.hid (fun W (hb : Below w.heap.size w W) => ref_has top x (a.map RB.rng) (.slice Pa n ca) W ((HX.out.1.below hb (Nat.le_refl _)).mono hb.size) (by omega))
      have HC := Lib.hid (fun W (hb : Below w.heap.size w W) => concatR_two W Pa Pb ca cb n m a b (SrcLo.of_rg ((HX.out.1.below hb (Nat.le_refl _)).mono hb.size)).2 (SrcLo.of_rg ((HX.out.2.1.below hb (Nat.le_refl _)).mono hb.size)).2 (SrcLo.of_rg ((HX.out.1.below hb (Nat.le_refl _)).mono hb.size)).1 (SrcLo.of_rg ((HX.out.2.1.below hb (Nat.le_refl _)).mono hb.size)).1 (by have := HX.out.2.2; omega))
      have HHc := Lib.hid (fun (u : Value) W (hu : RgL W W.heap.size u ((a ++ b).map RB.rng)) => has_any top x ht (a ++ b) u W hu (by have := HX.out.2.2; rw [List.length_append]; omega))
      rw [hap] at HHc
      have HLN := Lib.hid (show (a ++ b).length ≤ 120 by have := HX.out.2.2; rw [List.length_append]; omega)
      generalize hasB top x (a.map RB.rng) = ra at HHa HGa HHc hap
      generalize hasB top x (b.map RB.rng) = rb at HHb HHc hap
      clear hA hB ht hlm hln ha hb hva hvb hap
      cases ra with
      | false =>
        cases rb with
        | false =>
          simp only [Bool.false_or] at HHc
          go_enter Tryz.func7, Tryz.ntmps7
          go_upto_region 1 with fail
          try clear hg
          refine region_anyC (fun W => Blk W g 48 #[.int .u32 top, .int .u32 x]) (by kernel_rfl) ?_
          refine anyC_take (i := 0) (v := ?_) rfl (by kernel_rfl) (by kernel_rfl) (by kernel_rfl) (fun _ _ _ h => h) (H0.out.2) (Or.inl ⟨by rfl, ?_⟩) ?_
          rotate_left
          · intro W hW
            go_simp
            try with_reducible rfl
          try simp only [List.getElem_toArray, List.getElem_cons_zero, List.getElem_cons_succ, Act.put, List.setIfInBounds_toArray, List.set_cons_zero, List.set_cons_succ]
          refine anyC_take (i := 2) (v := ?_) rfl (by kernel_rfl) (by kernel_rfl) (by kernel_rfl) (fun _ _ _ h => h) (H0.out.2) (Or.inl ⟨by rfl, ?_⟩) ?_
          rotate_left
          · intro W hW
            go_simp
            try with_reducible rfl
          try simp only [List.getElem_toArray, List.getElem_cons_zero, List.getElem_cons_succ, Act.put, List.setIfInBounds_toArray, List.set_cons_zero, List.set_cons_succ]
          refine anyC_take (i := 1) (v := ?_) rfl (by kernel_rfl) (by kernel_rfl) (by kernel_rfl) (fun _ _ _ h => h) (H0.out.2) (Or.inl ⟨by rfl, ?_⟩) ?_
          rotate_left
          · intro W hW
            have x0 : W.cell? ⟨g, 0, none⟩ = some (.int .u32 top) := hW.cell 0
            have x1 : W.cell? ⟨g, 1, none⟩ = some (.int .u32 x) := hW.cell 1
            go_simp
            try with_reducible rfl
          try simp only [List.getElem_toArray, List.getElem_cons_zero, List.getElem_cons_succ, Act.put, List.setIfInBounds_toArray, List.set_cons_zero, List.set_cons_succ]
          refine anyC_take (i := 3) (v := ?_) rfl (by kernel_rfl) (by kernel_rfl) (by kernel_rfl) (fun _ _ _ h => h) (H0.out.2) (Or.inl ⟨by rfl, ?_⟩) ?_
          rotate_left
          · intro W hW
            have x0 : W.cell? ⟨g, 0, none⟩ = some (.int .u32 top) := hW.cell 0
            have x1 : W.cell? ⟨g, 1, none⟩ = some (.int .u32 x) := hW.cell 1
            go_simp
            try with_reducible rfl
          try simp only [List.getElem_toArray, List.getElem_cons_zero, List.getElem_cons_succ, Act.put, List.setIfInBounds_toArray, List.set_cons_zero, List.set_cons_succ]
          refine anyC_take (i := 4) (v := ?_) rfl (by kernel_rfl) (by kernel_rfl) (by kernel_rfl) (fun _ _ _ h => h) (H0.out.2) (Or.inl ⟨by rfl, ?_⟩) ?_
          rotate_left
          · intro W hW
            go_simp
            try with_reducible rfl
          try simp only [List.getElem_toArray, List.getElem_cons_zero, List.getElem_cons_succ, Act.put, List.setIfInBounds_toArray, List.set_cons_zero, List.set_cons_succ]
          refine anyC_take (i := 5) (v := ?_) rfl (by kernel_rfl) (by kernel_rfl) (by kernel_rfl) (fun _ _ _ h => h) (H0.out.2) (Or.inl ⟨by rfl, ?_⟩) ?_
          rotate_left
          · intro W hW
            go_simp
            try with_reducible rfl
          try simp only [List.getElem_toArray, List.getElem_cons_zero, List.getElem_cons_succ, Act.put, List.setIfInBounds_toArray, List.set_cons_zero, List.set_cons_succ]
          refine anyC_done (by kernel_rfl) ?_ _
          have H1 := Lib.hid (show Below w.heap.size w (w.alloc (.cells #[.int .u32 top, .int .u32 x] 48)).drew from Below.drew H0.out.1)
          go_wp2_with fail
          refine (HFa.out _).mono ?_
          rintro e w9 ⟨rfl, rfl⟩
          go_wp2_with fail
          refine (HFb.out _).mono ?_
          rintro e w9 ⟨rfl, rfl⟩
          go_wp2_with fail
          refine (HVa.out _ H1.out).mono ?_
          rintro e w2 ⟨rfl, e2⟩
          have H2 : Hid (Below w.heap.size w w2) := Lib.hid (by rw [e2]; exact H1.out)
          clear e2
          go_wp2_with fail
          refine (HVb.out _ H2.out).mono ?_
          rintro e w3 ⟨rfl, e3⟩
          have H3 : Hid (Below w.heap.size w w3) := Lib.hid (by rw [e3]; exact H2.out)
          clear e3
          go_wp2_with fail
          refine (HA.out _ H3.out).mono ?_
          rintro e w4 ⟨rfl, hb4⟩
          have H4 := Lib.hid (H3.out.trans (hb4.mono H3.out.size))
          clear hb4
          go_wp2_with fail
          refine (HC.out _ H4.out).mono ?_
          rintro e w5 ⟨v5, rfl, hB5, hb5⟩
          have H5 := Lib.hid (And.intro (RgL.of_buf hB5) (H4.out.trans (hb5.mono H4.out.size)))
          clear hB5 hb5
          go_wp2_with fail
          refine (HHc.out v5 _ H5.out.1).mono ?_
          rintro e w6 ⟨rfl, hb6⟩
          have H6 := Lib.hid (H5.out.2.trans (hb6.mono H5.out.2.size))
          clear hb6
          go_wp2_with fail
          refine (HHa.out _ H6.out).mono ?_
          rintro e w7 ⟨rfl, hb7⟩
          have H7 := Lib.hid (H6.out.trans (hb7.mono H6.out.size))
          clear hb7
          go_wp2_with fail
          refine (HHb.out _ H7.out).mono ?_
          rintro e w10 ⟨rfl, hb10⟩
          have H10 := Lib.hid (H7.out.trans (hb10.mono H7.out.size))
          clear hb10
          go_wp2_with fail
          refine (HHa.out _ H10.out).mono ?_
          rintro e w11 ⟨rfl, hb11⟩
          have H11 := Lib.hid (H10.out.trans (hb11.mono H10.out.size))
          clear hb11
          go_wp2_with fail
          refine (HGa.out _ H11.out).mono ?_
          rintro e w12 ⟨rfl, e12⟩
          have H12 : Hid (Below w.heap.size w w12) := Lib.hid (by rw [e12]; exact H11.out)
          clear e12
          go_wp2_with fail
          go_ret
          exact ⟨by first | rfl | (simp; done), H12.out⟩
        | true =>
          simp only [Bool.false_or] at HHc
          go_enter Tryz.func7, Tryz.ntmps7
          go_upto_region 1 with fail
          try clear hg
          refine region_anyC (fun W => Blk W g 48 #[.int .u32 top, .int .u32 x]) (by kernel_rfl) ?_
          refine anyC_take (i := 0) (v := ?_) rfl (by kernel_rfl) (by kernel_rfl) (by kernel_rfl) (fun _ _ _ h => h) (H0.out.2) (Or.inl ⟨by rfl, ?_⟩) ?_
          rotate_left
          · intro W hW
            go_simp
            try with_reducible rfl
          try simp only [List.getElem_toArray, List.getElem_cons_zero, List.getElem_cons_succ, Act.put, List.setIfInBounds_toArray, List.set_cons_zero, List.set_cons_succ]
          refine anyC_take (i := 2) (v := ?_) rfl (by kernel_rfl) (by kernel_rfl) (by kernel_rfl) (fun _ _ _ h => h) (H0.out.2) (Or.inl ⟨by rfl, ?_⟩) ?_
          rotate_left
          · intro W hW
            go_simp
            try with_reducible rfl
          try simp only [List.getElem_toArray, List.getElem_cons_zero, List.getElem_cons_succ, Act.put, List.setIfInBounds_toArray, List.set_cons_zero, List.set_cons_succ]
          refine anyC_take (i := 1) (v := ?_) rfl (by kernel_rfl) (by kernel_rfl) (by kernel_rfl) (fun _ _ _ h => h) (H0.out.2) (Or.inl ⟨by rfl, ?_⟩) ?_
          rotate_left
          · intro W hW
            have x0 : W.cell? ⟨g, 0, none⟩ = some (.int .u32 top) := hW.cell 0
            have x1 : W.cell? ⟨g, 1, none⟩ = some (.int .u32 x) := hW.cell 1
            go_simp
            try with_reducible rfl
          try simp only [List.getElem_toArray, List.getElem_cons_zero, List.getElem_cons_succ, Act.put, List.setIfInBounds_toArray, List.set_cons_zero, List.set_cons_succ]
          refine anyC_take (i := 3) (v := ?_) rfl (by kernel_rfl) (by kernel_rfl) (by kernel_rfl) (fun _ _ _ h => h) (H0.out.2) (Or.inl ⟨by rfl, ?_⟩) ?_
          rotate_left
          · intro W hW
            have x0 : W.cell? ⟨g, 0, none⟩ = some (.int .u32 top) := hW.cell 0
            have x1 : W.cell? ⟨g, 1, none⟩ = some (.int .u32 x) := hW.cell 1
            go_simp
            try with_reducible rfl
          try simp only [List.getElem_toArray, List.getElem_cons_zero, List.getElem_cons_succ, Act.put, List.setIfInBounds_toArray, List.set_cons_zero, List.set_cons_succ]
          refine anyC_take (i := 4) (v := ?_) rfl (by kernel_rfl) (by kernel_rfl) (by kernel_rfl) (fun _ _ _ h => h) (H0.out.2) (Or.inl ⟨by rfl, ?_⟩) ?_
          rotate_left
          · intro W hW
            go_simp
            try with_reducible rfl
          try simp only [List.getElem_toArray, List.getElem_cons_zero, List.getElem_cons_succ, Act.put, List.setIfInBounds_toArray, List.set_cons_zero, List.set_cons_succ]
          refine anyC_take (i := 5) (v := ?_) rfl (by kernel_rfl) (by kernel_rfl) (by kernel_rfl) (fun _ _ _ h => h) (H0.out.2) (Or.inl ⟨by rfl, ?_⟩) ?_
          rotate_left
          · intro W hW
            go_simp
            try with_reducible rfl
          try simp only [List.getElem_toArray, List.getElem_cons_zero, List.getElem_cons_succ, Act.put, List.setIfInBounds_toArray, List.set_cons_zero, List.set_cons_succ]
          refine anyC_done (by kernel_rfl) ?_ _
          have H1 := Lib.hid (show Below w.heap.size w (w.alloc (.cells #[.int .u32 top, .int .u32 x] 48)).drew from Below.drew H0.out.1)
          go_wp2_with fail
          refine (HFa.out _).mono ?_
          rintro e w9 ⟨rfl, rfl⟩
          go_wp2_with fail
          refine (HFb.out _).mono ?_
          rintro e w9 ⟨rfl, rfl⟩
          go_wp2_with fail
          refine (HVa.out _ H1.out).mono ?_
          rintro e w2 ⟨rfl, e2⟩
          have H2 : Hid (Below w.heap.size w w2) := Lib.hid (by rw [e2]; exact H1.out)
          clear e2
          go_wp2_with fail
          refine (HVb.out _ H2.out).mono ?_
          rintro e w3 ⟨rfl, e3⟩
          have H3 : Hid (Below w.heap.size w w3) := Lib.hid (by rw [e3]; exact H2.out)
          clear e3
          go_wp2_with fail
          refine (HA.out _ H3.out).mono ?_
          rintro e w4 ⟨rfl, hb4⟩
          have H4 := Lib.hid (H3.out.trans (hb4.mono H3.out.size))
          clear hb4
          go_wp2_with fail
          refine (HC.out _ H4.out).mono ?_
          rintro e w5 ⟨v5, rfl, hB5, hb5⟩
          have H5 := Lib.hid (And.intro (RgL.of_buf hB5) (H4.out.trans (hb5.mono H4.out.size)))
          clear hB5 hb5
          go_wp2_with fail
          refine (HHc.out v5 _ H5.out.1).mono ?_
          rintro e w6 ⟨rfl, hb6⟩
          have H6 := Lib.hid (H5.out.2.trans (hb6.mono H5.out.2.size))
          clear hb6
          go_wp2_with fail
          refine (HHa.out _ H6.out).mono ?_
          rintro e w7 ⟨rfl, hb7⟩
          have H7 := Lib.hid (H6.out.trans (hb7.mono H6.out.size))
          clear hb7
          go_wp2_with fail
          refine (HHb.out _ H7.out).mono ?_
          rintro e w10 ⟨rfl, hb10⟩
          have H10 := Lib.hid (H7.out.trans (hb10.mono H7.out.size))
          clear hb10
          go_wp2_with fail
          refine (HHa.out _ H10.out).mono ?_
          rintro e w11 ⟨rfl, hb11⟩
          have H11 := Lib.hid (H10.out.trans (hb11.mono H10.out.size))
          clear hb11
          go_wp2_with fail
          refine (HGa.out _ H11.out).mono ?_
          rintro e w12 ⟨rfl, e12⟩
          have H12 : Hid (Below w.heap.size w w12) := Lib.hid (by rw [e12]; exact H11.out)
          clear e12
          go_wp2_with fail
          go_ret
          exact ⟨by first | rfl | (simp; done), H12.out⟩
      | true =>
        simp only [Bool.true_or] at HHc
        go_enter Tryz.func7, Tryz.ntmps7
        go_upto_region 1 with fail
        try clear hg
        refine region_anyC (fun W => Blk W g 48 #[.int .u32 top, .int .u32 x]) (by kernel_rfl) ?_
        refine anyC_take (i := 0) (v := ?_) rfl (by kernel_rfl) (by kernel_rfl) (by kernel_rfl) (fun _ _ _ h => h) (H0.out.2) (Or.inl ⟨by rfl, ?_⟩) ?_
        rotate_left
        · intro W hW
          go_simp
          try with_reducible rfl
        try simp only [List.getElem_toArray, List.getElem_cons_zero, List.getElem_cons_succ, Act.put, List.setIfInBounds_toArray, List.set_cons_zero, List.set_cons_succ]
        refine anyC_take (i := 2) (v := ?_) rfl (by kernel_rfl) (by kernel_rfl) (by kernel_rfl) (fun _ _ _ h => h) (H0.out.2) (Or.inl ⟨by rfl, ?_⟩) ?_
        rotate_left
        · intro W hW
          go_simp
          try with_reducible rfl
        try simp only [List.getElem_toArray, List.getElem_cons_zero, List.getElem_cons_succ, Act.put, List.setIfInBounds_toArray, List.set_cons_zero, List.set_cons_succ]
        refine anyC_take (i := 1) (v := ?_) rfl (by kernel_rfl) (by kernel_rfl) (by kernel_rfl) (fun _ _ _ h => h) (H0.out.2) (Or.inl ⟨by rfl, ?_⟩) ?_
        rotate_left
        · intro W hW
          have x0 : W.cell? ⟨g, 0, none⟩ = some (.int .u32 top) := hW.cell 0
          have x1 : W.cell? ⟨g, 1, none⟩ = some (.int .u32 x) := hW.cell 1
          go_simp
          try with_reducible rfl
        try simp only [List.getElem_toArray, List.getElem_cons_zero, List.getElem_cons_succ, Act.put, List.setIfInBounds_toArray, List.set_cons_zero, List.set_cons_succ]
        refine anyC_take (i := 3) (v := ?_) rfl (by kernel_rfl) (by kernel_rfl) (by kernel_rfl) (fun _ _ _ h => h) (H0.out.2) (Or.inl ⟨by rfl, ?_⟩) ?_
        rotate_left
        · intro W hW
          have x0 : W.cell? ⟨g, 0, none⟩ = some (.int .u32 top) := hW.cell 0
          have x1 : W.cell? ⟨g, 1, none⟩ = some (.int .u32 x) := hW.cell 1
          go_simp
          try with_reducible rfl
        try simp only [List.getElem_toArray, List.getElem_cons_zero, List.getElem_cons_succ, Act.put, List.setIfInBounds_toArray, List.set_cons_zero, List.set_cons_succ]
        refine anyC_take (i := 4) (v := ?_) rfl (by kernel_rfl) (by kernel_rfl) (by kernel_rfl) (fun _ _ _ h => h) (H0.out.2) (Or.inl ⟨by rfl, ?_⟩) ?_
        rotate_left
        · intro W hW
          go_simp
          try with_reducible rfl
        try simp only [List.getElem_toArray, List.getElem_cons_zero, List.getElem_cons_succ, Act.put, List.setIfInBounds_toArray, List.set_cons_zero, List.set_cons_succ]
        refine anyC_take (i := 5) (v := ?_) rfl (by kernel_rfl) (by kernel_rfl) (by kernel_rfl) (fun _ _ _ h => h) (H0.out.2) (Or.inl ⟨by rfl, ?_⟩) ?_
        rotate_left
        · intro W hW
          go_simp
          try with_reducible rfl
        try simp only [List.getElem_toArray, List.getElem_cons_zero, List.getElem_cons_succ, Act.put, List.setIfInBounds_toArray, List.set_cons_zero, List.set_cons_succ]
        refine anyC_done (by kernel_rfl) ?_ _
        have H1 := Lib.hid (show Below w.heap.size w (w.alloc (.cells #[.int .u32 top, .int .u32 x] 48)).drew from Below.drew H0.out.1)
        go_wp2_with fail
        refine (HFa.out _).mono ?_
        rintro e w9 ⟨rfl, rfl⟩
        go_wp2_with fail
        refine (HFb.out _).mono ?_
        rintro e w9 ⟨rfl, rfl⟩
        go_wp2_with fail
        refine (HVa.out _ H1.out).mono ?_
        rintro e w2 ⟨rfl, e2⟩
        have H2 : Hid (Below w.heap.size w w2) := Lib.hid (by rw [e2]; exact H1.out)
        clear e2
        go_wp2_with fail
        refine (HVb.out _ H2.out).mono ?_
        rintro e w3 ⟨rfl, e3⟩
        have H3 : Hid (Below w.heap.size w w3) := Lib.hid (by rw [e3]; exact H2.out)
        clear e3
        go_wp2_with fail
        refine (HA.out _ H3.out).mono ?_
        rintro e w4 ⟨rfl, hb4⟩
        have H4 := Lib.hid (H3.out.trans (hb4.mono H3.out.size))
        clear hb4
        go_wp2_with fail
        refine (HC.out _ H4.out).mono ?_
        rintro e w5 ⟨v5, rfl, hB5, hb5⟩
        have H5 := Lib.hid (And.intro (RgL.of_buf hB5) (H4.out.trans (hb5.mono H4.out.size)))
        clear hB5 hb5
        go_wp2_with fail
        refine (HHc.out v5 _ H5.out.1).mono ?_
        rintro e w6 ⟨rfl, hb6⟩
        have H6 := Lib.hid (H5.out.2.trans (hb6.mono H5.out.2.size))
        clear hb6
        go_wp2_with fail
        refine (HHa.out _ H6.out).mono ?_
        rintro e w7 ⟨rfl, hb7⟩
        have H7 := Lib.hid (H6.out.trans (hb7.mono H6.out.size))
        clear hb7
        go_wp2_with fail
        refine (HHa.out _ H7.out).mono ?_
        rintro e w11 ⟨rfl, hb11⟩
        have H11 := Lib.hid (H7.out.trans (hb11.mono H7.out.size))
        clear hb11
        go_wp2_with fail
        refine (HGa.out _ H11.out).mono ?_
        rintro e w12 ⟨rfl, e12⟩
        have H12 : Hid (Below w.heap.size w w12) := Lib.hid (by rw [e12]; exact H11.out)
        clear e12
        go_wp2_with fail
        go_ret
        exact ⟨by first | rfl | (simp; done), H12.out⟩
end Go.Proofs.YtpcffnhbodjpbaaGreatDoor
