/- What view.New makes; SameList over equal lists; the example of the chapter. -/
import Derived.Test.YtponmnabbieafaaGreatDoorVwA
import Derived.Test.YtponmnabbieafaaGreatDoorC
import Derived.Test.YtponmnabbieafaaGreatDoorBys
set_option linter.unusedVariables false
set_option linter.unusedSimpArgs false
namespace Go.Proofs.YtponmnabbieafaaGreatDoor
open Go Go.RowKit Go.Shelf Go.Lib Go.Sort

set_option maxHeartbeats 1000000 in
theorem vnew_mut (l : List Int) (v : Value) (w : World) (hU : U32 w w.heap.size v l) (hl : l.length ≤ 1048576) (h0 : ∀ x ∈ l, 0 ≤ x) :
    Calls Tryz.prog 7 #[v] w fun e w' => ∃ vb ib sv, e = .returned (.pointer (some ⟨vb, 0, none⟩)) ∧ VwM w' w.heap.size vb ib sv (srtU l) false ∧ Below w.heap.size w w' := by
  obtain ⟨A, cap, rfl, hc1, hc2⟩ := hU
  have HN := Lib.hid (new_any l A cap w ⟨A, cap, rfl, hc1, hc2⟩ hl h0)
  clear hc1 hc2 h0
  generalize l.length = n at *
  go_enter Tryz.func7, Tryz.ntmps7
  go_wp2_with fail
  refine HN.out.mono ?_
  rintro e w1 ⟨b, rfl, h1, h2, h3⟩
  have H1 := Lib.hid (And.intro h1 (And.intro h2 h3))
  clear h1 h2 h3
  go_wp2_with fail
  go_ret
  obtain ⟨h1, h2, h3⟩ := H1.out
  obtain ⟨sv, hi⟩ := h2.mut h1
  refine ⟨w1.heap.size, b, sv, rfl, ⟨Blk.made w1 53 _, hi.below ((Below.refl _ w1).alloc (Nat.le_refl _) _) (Nat.le_refl _), by have := hi.1.lt; omega, fun e => by have := (hi.own_lt _ e).1; omega, h3.size⟩, h3.alloc h3.size _⟩

theorem conv_nil (W : World) : (convert 47 9 (.slice none 0 0)).run Tryz.prog W = .ok (.string ⟨#[]⟩) W := by
  exact conv_bys (B := 0) (p := none) (l := []) (fun h => absurd h (by simp)) 0 Tryz.underlying47 Tryz.underlying5 Tryz.underlying9
set_option maxRecDepth 100000 in
set_option maxHeartbeats 3200000 in
theorem same_self (r : Rp) (w : World) : Calls Tryz.prog 22 #[.agg (rpC r).toArray, .agg (rpC r).toArray] w fun e w' => e = .returned (.bool true) ∧ Below w.heap.size w w' := by
  have hc := conv_nil
  have hb : Below w.heap.size w ((w.alloc (.cells (rpC r).toArray 49)).alloc (.cells (rpC r).toArray 49)) := ((Below.refl _ w).alloc (Nat.le_refl _) _).alloc (by rw [World.size_alloc]; omega) _
  have HB := Lib.hid hb
  clear hb
  unfold rpC at *
  obtain ⟨kd, n, it, fl⟩ := r
  dsimp only at *
  go_enter Tryz.func22, Tryz.ntmps22
  go_wp2_with fail
  go_ret
  exact ⟨rfl, HB.out⟩

/-- Response i of a slice at b, o. -/
def RpAt (W : World) (b o i : Nat) (r : Rp) : Prop := W.cell? ⟨b, o + i * 10, none⟩ = some (.int .i64 r.kind) ∧ W.cell? ⟨b, o + i * 10 + 1, none⟩ = some (.int .u32 (r.n : Nat)) ∧ W.cell? ⟨b, o + i * 10 + 2, none⟩ = some (.string ⟨#[]⟩) ∧ W.cell? ⟨b, o + i * 10 + 3, none⟩ = some (.int .i64 0) ∧ W.cell? ⟨b, o + i * 10 + 4, none⟩ = some (.string ⟨#[]⟩) ∧ W.cell? ⟨b, o + i * 10 + 5, none⟩ = some (.int .i64 r.items) ∧ W.cell? ⟨b, o + i * 10 + 6, none⟩ = some (.int .u8 (r.fl : Nat)) ∧ W.cell? ⟨b, o + i * 10 + 7, none⟩ = some (.int .u32 0) ∧ W.cell? ⟨b, o + i * 10 + 8, none⟩ = some (.int .u32 0) ∧ W.cell? ⟨b, o + i * 10 + 9, none⟩ = some (.slice none 0 0)
theorem RpAt.below {W W' : World} {b o i n : Nat} {r : Rp} (h : RpAt W b o i r) (hb : Below n W W') (hn : b < n) : RpAt W' b o i r := by
  unfold RpAt at *
  obtain ⟨h0, h1, h2, h3, h4, h5, h6, h7, h8, h9⟩ := h
  exact ⟨(hb.cell (p := ⟨b, _, none⟩) hn).trans h0, (hb.cell (p := ⟨b, _, none⟩) hn).trans h1, (hb.cell (p := ⟨b, _, none⟩) hn).trans h2, (hb.cell (p := ⟨b, _, none⟩) hn).trans h3, (hb.cell (p := ⟨b, _, none⟩) hn).trans h4, (hb.cell (p := ⟨b, _, none⟩) hn).trans h5, (hb.cell (p := ⟨b, _, none⟩) hn).trans h6, (hb.cell (p := ⟨b, _, none⟩) hn).trans h7, (hb.cell (p := ⟨b, _, none⟩) hn).trans h8, (hb.cell (p := ⟨b, _, none⟩) hn).trans h9⟩
/-- The slice v reads as the responses L. -/
def RpR (W : World) (v : Value) (L : List Rp) : Prop := ∃ p cap, v = .slice p L.length cap ∧ ∀ i (hi : i < L.length), ∃ b o, p = some ⟨b, o, none⟩ ∧ b < W.heap.size ∧ RpAt W b o i L[i]
theorem RpR.below {W W' : World} {v : Value} {L : List Rp} (h : RpR W v L) (hb : Below W.heap.size W W') : RpR W' v L := by
  obtain ⟨p, cap, e, h⟩ := h
  refine ⟨p, cap, e, fun i hi => ?_⟩
  obtain ⟨b, o, e, h1, h2⟩ := h i hi
  exact ⟨b, o, e, Nat.lt_of_lt_of_le h1 hb.size, h2.below hb h1⟩
theorem flat_at : ∀ (L : List Rp) (i : Nat) (hi : i < L.length) (j : Nat), j < 10 → (L.flatMap rpC)[i * 10 + j]? = (rpC L[i])[j]?
  | r :: L, 0, _, j, hj => by
    rw [List.flatMap_cons, List.getElem?_append_left (by show 0 * 10 + j < 10; omega)]
    simp
  | r :: L, i + 1, hi, j, hj => by
    rw [List.flatMap_cons, List.getElem?_append_right (by show 10 ≤ (i + 1) * 10 + j; omega)]
    have := flat_at L i (by simpa using hi) j hj
    rw [show (i + 1) * 10 + j - (rpC r).length = i * 10 + j by show (i + 1) * 10 + j - 10 = _; omega, this]
    simp
theorem RpR.of_buf {W : World} {B : Nat} {v : Value} {L : List Rp} (h : Buf W B 10 v L.length (L.flatMap rpC)) : RpR W v L := by
  rcases h.2 with ⟨rfl, h0⟩ | ⟨g, off, cap, rfl, h1, h2, h3, h4, -⟩
  · exact ⟨none, 0, by rw [h0], fun i hi => by omega⟩
  · refine ⟨_, cap, rfl, fun i hi => ⟨g, off, rfl, h2, ?_⟩⟩
    have q : ∀ j u, j < 10 → (rpC L[i])[j]? = some u → W.cell? ⟨g, off + i * 10 + j, none⟩ = some u := fun j u hj hu => by
      have := h4 (i * 10 + j) u (by rw [flat_at L i hi j hj]; exact hu)
      rw [← Nat.add_assoc] at this
      exact this
    exact ⟨q 0 _ (by omega) rfl, q 1 _ (by omega) rfl, q 2 _ (by omega) rfl, q 3 _ (by omega) rfl, q 4 _ (by omega) rfl, q 5 _ (by omega) rfl, q 6 _ (by omega) rfl, q 7 _ (by omega) rfl, q 8 _ (by omega) rfl, q 9 _ (by omega) rfl⟩
set_option maxRecDepth 100000 in
set_option maxHeartbeats 3200000 in
theorem samelist_any (L : List Rp) (a b : Value) (w : World) (ha : RpR w a L) (hb : RpR w b L) (hl : L.length ≤ 1000000) :
    Calls Tryz.prog 10 #[a, b] w fun e w' => e = .returned (.bool true) ∧ Below w.heap.size w w' := by
  obtain ⟨pa, ca, rfl, hca⟩ := ha
  obtain ⟨pb, cb, rfl, hcb⟩ := hb
  obtain ⟨m, hm⟩ : ∃ m, L.length = m := ⟨_, rfl⟩
  have HC := Lib.hid (And.intro hm (And.intro hca hcb))
  have hmI : (m : Int) ≤ 1000000 := by omega
  rw [hm]
  clear hca hcb hm
  go_enter Tryz.func10, Tryz.ntmps10
  go_wp2_with fail
  go_loopw [5] (fun i wr => ∃ k : Nat, k ≤ m ∧ i = .int .i64 k ∧ Below w.heap.size w wr) (fun i _ => m - (intOf i).toNat)
  case atStart => exact ⟨0, Nat.zero_le _, rfl, Below.refl _ _⟩
  case round =>
    obtain ⟨k, hk, rfl, hbel⟩ := hrel
    have hkI : (k : Int) ≤ m := by omega
    by_cases hlt : k < m
    · have hltI : (k : Int) < m := by omega
      have hkl : k < L.length := by have := HC.out.1; omega
      obtain ⟨b1, o1, rfl, h1, r1⟩ := HC.out.2.1 k hkl
      obtain ⟨b2, o2, rfl, h2, r2⟩ := HC.out.2.2 k hkl
      obtain ⟨r, hr⟩ : ∃ r, L[k] = r := ⟨_, rfl⟩
      rw [hr] at r1 r2
      have HB := Lib.hid (show Below w.heap.size w wr.drew from Below.drew hbel)
      have HR := Lib.hid (And.intro (r1.below HB.out h1) (r2.below HB.out h2))
      have HS := Lib.hid (fun W => same_self r W)
      unfold rpC at HS
      have HN := Lib.hid (And.intro h1 h2)
      clear hbel r1 r2 hr h1 h2
      go_upto_region 6 with fail
      refine region_anyC (fun W => RpAt W b1 o1 k r ∧ RpAt W b2 o2 k r) (by kernel_rfl) ?_
      refine anyC_take (i := 0) (v := ?_) rfl (by kernel_rfl) (by kernel_rfl) (by kernel_rfl) (fun _ _ _ h => h) (HR.out) (Or.inl ⟨by rfl, ?_⟩) ?_
      rotate_left
      · intro W hW
        go_simp
        try with_reducible rfl
      try simp only [List.getElem_toArray, List.getElem_cons_zero, List.getElem_cons_succ, Act.put, List.setIfInBounds_toArray, List.set_cons_zero, List.set_cons_succ]
      refine anyC_take (i := 1) (v := ?_) rfl (by kernel_rfl) (by kernel_rfl) (by kernel_rfl) (fun _ _ _ h => h) (HR.out) (Or.inl ⟨by rfl, ?_⟩) ?_
      rotate_left
      · intro W hW
        go_simp
        try with_reducible rfl
      try simp only [List.getElem_toArray, List.getElem_cons_zero, List.getElem_cons_succ, Act.put, List.setIfInBounds_toArray, List.set_cons_zero, List.set_cons_succ]
      refine anyC_take (i := 2) (v := ?_) rfl (by kernel_rfl) (by kernel_rfl) (by kernel_rfl) (fun _ _ _ h => h) (HR.out) (Or.inl ⟨by rfl, ?_⟩) ?_
      rotate_left
      · intro W hW
        go_simp
        try with_reducible rfl
      try simp only [List.getElem_toArray, List.getElem_cons_zero, List.getElem_cons_succ, Act.put, List.setIfInBounds_toArray, List.set_cons_zero, List.set_cons_succ]
      refine anyC_take (i := 4) (v := ?_) rfl (by kernel_rfl) (by kernel_rfl) (by kernel_rfl) (fun _ _ _ h => h) (HR.out) (Or.inl ⟨by rfl, ?_⟩) ?_
      rotate_left
      · intro W hW
        go_simp
        try with_reducible rfl
      try simp only [List.getElem_toArray, List.getElem_cons_zero, List.getElem_cons_succ, Act.put, List.setIfInBounds_toArray, List.set_cons_zero, List.set_cons_succ]
      refine anyC_take (i := 5) (v := ?_) rfl (by kernel_rfl) (by kernel_rfl) (by kernel_rfl) (fun _ _ _ h => h) (HR.out) (Or.inl ⟨by rfl, ?_⟩) ?_
      rotate_left
      · intro W hW
        go_simp
        try with_reducible rfl
      try simp only [List.getElem_toArray, List.getElem_cons_zero, List.getElem_cons_succ, Act.put, List.setIfInBounds_toArray, List.set_cons_zero, List.set_cons_succ]
      refine anyC_take (i := 6) (v := ?_) rfl (by kernel_rfl) (by kernel_rfl) (by kernel_rfl) (fun _ _ _ h => h) (HR.out) (Or.inl ⟨by rfl, ?_⟩) ?_
      rotate_left
      · intro W hW
        go_simp
        try with_reducible rfl
      try simp only [List.getElem_toArray, List.getElem_cons_zero, List.getElem_cons_succ, Act.put, List.setIfInBounds_toArray, List.set_cons_zero, List.set_cons_succ]
      refine anyC_take (i := 3) (v := ?_) rfl (by kernel_rfl) (by kernel_rfl) (by kernel_rfl) (fun _ _ _ h => h) (HR.out) (Or.inl ⟨by rfl, ?_⟩) ?_
      rotate_left
      · intro W hW
        obtain ⟨⟨c0, c1, c2, c3, c4, c5, c6, c7, c8, c9⟩, -⟩ := id hW
        go_simp
        try with_reducible rfl
      try simp only [List.getElem_toArray, List.getElem_cons_zero, List.getElem_cons_succ, Act.put, List.setIfInBounds_toArray, List.set_cons_zero, List.set_cons_succ]
      refine anyC_take (i := 7) (v := ?_) rfl (by kernel_rfl) (by kernel_rfl) (by kernel_rfl) (fun _ _ _ h => h) (HR.out) (Or.inl ⟨by rfl, ?_⟩) ?_
      rotate_left
      · intro W hW
        obtain ⟨-, ⟨c0, c1, c2, c3, c4, c5, c6, c7, c8, c9⟩⟩ := id hW
        go_simp
        try with_reducible rfl
      try simp only [List.getElem_toArray, List.getElem_cons_zero, List.getElem_cons_succ, Act.put, List.setIfInBounds_toArray, List.set_cons_zero, List.set_cons_succ]
      refine anyC_one (i := 8) (by kernel_rfl) (fun K hK => ⟨_, rfl, by kernel_rfl, ?_⟩)
      go_simp
      refine (HS.out _).mono ?_
      rintro e w5 ⟨rfl, hb5⟩
      have H5 := Lib.hid (And.intro (And.intro (HR.out.1.below hb5 (Nat.lt_of_lt_of_le HN.out.1 HB.out.size)) (HR.out.2.below hb5 (Nat.lt_of_lt_of_le HN.out.2 HB.out.size))) (HB.out.trans (hb5.mono HB.out.size)))
      clear hb5
      refine hK _ _ H5.out.1 ?_
      clear hK K
      try simp only [List.getElem_toArray, List.getElem_cons_zero, List.getElem_cons_succ, Act.put, List.setIfInBounds_toArray, List.set_cons_zero, List.set_cons_succ]
      refine anyC_take (i := 9) (v := ?_) rfl (by kernel_rfl) (by kernel_rfl) (by kernel_rfl) (fun _ _ _ h => h) (H5.out.1) (Or.inl ⟨by rfl, ?_⟩) ?_
      rotate_left
      · intro W hW
        go_simp
        try with_reducible rfl
      try simp only [List.getElem_toArray, List.getElem_cons_zero, List.getElem_cons_succ, Act.put, List.setIfInBounds_toArray, List.set_cons_zero, List.set_cons_succ]
      refine anyC_done (by kernel_rfl) ?_ _
      go_wp2_with fail
      go_roundw
      case rel => exact ⟨k + 1, by omega, by go_num, H5.out.2⟩
      case measure => simp [intOf]; omega
    · obtain rfl : k = m := by omega
      have HB := Lib.hid hbel
      clear hbel
      go_wp2_with fail
      go_ret
      exact ⟨rfl, HB.out⟩

theorem ex_srt17 : srtU [3, 5, 9] = [3, 5, 9] := by decide
theorem u32_359 (w : World) : U32 (w.alloc (.cells #[.int .u32 3, .int .u32 5, .int .u32 9] 35)) (w.alloc (.cells #[.int .u32 3, .int .u32 5, .int .u32 9] 35)).heap.size (.slice (some ⟨w.heap.size, 0, none⟩) 3 3) [3, 5, 9] :=
  ⟨_, _, rfl, by decide, fun _ => ⟨_, _, rfl, by rw [World.size_alloc]; omega, fun j u hj => by
    have h := Blk.made w 35 #[.int .u32 3, .int .u32 5, .int .u32 9]
    match j with
    | 0 => simp at hj; subst hj; exact h.cell 0
    | 1 => simp at hj; subst hj; exact h.cell 1
    | 2 => simp at hj; subst hj; exact h.cell 2
    | j + 3 => simp at hj⟩⟩
def exE : List Ev := [⟨2, 5, 0⟩, ⟨1, 12, 0⟩, ⟨1, 13, 0⟩]
def exL : List Rp := [⟨3, 2, 0, 0⟩, ⟨1, 4, 0, 0⟩]
theorem ex_app : (applyV ([3, 5, 9], false) exE).1.1 = [3, 9, 12, 13] ∧ (applyV ([3, 5, 9], false) exE).2 = exL := ⟨rfl, rfl⟩
theorem ev_lit (w : World) : EvR (w.alloc (.cells #[.int .i64 2, .int .u32 5, .int .u8 0, .int .i64 1, .int .u32 12, .int .u8 0, .int .i64 1, .int .u32 13, .int .u8 0] 46)) (.slice (some ⟨w.heap.size, 0, none⟩) 3 3) exE w.heap.size :=
  ⟨_, 0, 3, rfl, fun _ => rfl, fun i hi => by
    have h := Blk.made w 46 #[.int .i64 2, .int .u32 5, .int .u8 0, .int .i64 1, .int .u32 12, .int .u8 0, .int .i64 1, .int .u32 13, .int .u8 0]
    match i, hi with
    | 0, _ => exact ⟨h.cell 0, h.cell 1, h.cell 2⟩
    | 1, _ => exact ⟨h.cell 3, h.cell 4, h.cell 5⟩
    | 2, _ => exact ⟨h.cell 6, h.cell 7, h.cell 8⟩⟩
theorem rp_lit (w : World) : RpR (w.alloc (.cells #[.int .i64 3, .int .u32 2, .string ⟨#[]⟩, .int .i64 0, .string ⟨#[]⟩, .int .i64 0, .int .u8 0, .int .u32 0, .int .u32 0, .slice none 0 0, .int .i64 1, .int .u32 4, .string ⟨#[]⟩, .int .i64 0, .string ⟨#[]⟩, .int .i64 0, .int .u8 0, .int .u32 0, .int .u32 0, .slice none 0 0] 49)) (.slice (some ⟨w.heap.size, 0, none⟩) 2 2) exL :=
  ⟨_, 2, rfl, fun i hi => ⟨w.heap.size, 0, rfl, by rw [World.size_alloc]; omega, by
    have h := Blk.made w 49 #[.int .i64 3, .int .u32 2, .string ⟨#[]⟩, .int .i64 0, .string ⟨#[]⟩, .int .i64 0, .int .u8 0, .int .u32 0, .int .u32 0, .slice none 0 0, .int .i64 1, .int .u32 4, .string ⟨#[]⟩, .int .i64 0, .string ⟨#[]⟩, .int .i64 0, .int .u8 0, .int .u32 0, .int .u32 0, .slice none 0 0]
    match i, hi with
    | 0, _ => exact ⟨h.cell 0, h.cell 1, h.cell 2, h.cell 3, h.cell 4, h.cell 5, h.cell 6, h.cell 7, h.cell 8, h.cell 9⟩
    | 1, _ => exact ⟨h.cell 10, h.cell 11, h.cell 12, h.cell 13, h.cell 14, h.cell 15, h.cell 16, h.cell 17, h.cell 18, h.cell 19⟩⟩⟩
set_option maxRecDepth 100000 in
set_option maxHeartbeats 3200000 in
theorem alive_any (w : World) : Calls Tryz.prog 6 #[] w fun e w' => e = .returned (.bool true) ∧ Below w.heap.size w w' := by
  have hN := vnew_mut [3, 5, 9] (.slice (some ⟨w.heap.size, 0, none⟩) 3 3) (w.alloc (.cells #[.int .u32 3, .int .u32 5, .int .u32 9] 35)) (u32_359 w) (by decide) (by decide)
  rw [ex_srt17] at hN
  have HN := Lib.hid hN
  have hb0 : Below w.heap.size w (w.alloc (.cells #[.int .u32 3, .int .u32 5, .int .u32 9] 35)) := (Below.refl _ w).alloc (Nat.le_refl _) _
  have HB0 := Lib.hid hb0
  clear hb0 hN
  go_enter Tryz.func6, Tryz.ntmps6
  go_wp2_with fail
  refine HN.out.mono ?_
  rintro e w1 ⟨vb, ib, sv, rfl, hv, hb1⟩
  have hbx : Below w1.heap.size w1 (w1.alloc (.cells #[.int .i64 2, .int .u32 5, .int .u8 0, .int .i64 1, .int .u32 12, .int .u8 0, .int .i64 1, .int .u32 13, .int .u8 0] 46)) := (Below.refl _ _).alloc (Nat.le_refl _) _
  have hA := apply_any _ vb ib sv [3, 5, 9] false exE (.slice (some ⟨w1.heap.size, 0, none⟩) 3 3) w1.heap.size (w1.alloc (.cells #[.int .i64 2, .int .u32 5, .int .u8 0, .int .i64 1, .int .u32 12, .int .u8 0, .int .i64 1, .int .u32 13, .int .u8 0] 46)) (hv.below hbx (Nat.le_refl _)) (ev_lit w1) (.inr ⟨by rw [World.size_alloc]; omega, by have := hv.1.lt; omega, by have := hv.2.1.1.lt; omega, fun e => by have := (hv.2.1.own_lt _ e).1; omega⟩) (by simp [asc]) (by decide) (by decide)
  rw [ex_app.1, ex_app.2] at hA
  have HA := Lib.hid hA
  have H1 := Lib.hid (show Below w.heap.size w (w1.alloc (.cells #[.int .i64 2, .int .u32 5, .int .u8 0, .int .i64 1, .int .u32 12, .int .u8 0, .int .i64 1, .int .u32 13, .int .u8 0] 46)) ∧ w.heap.size + 1 ≤ w1.heap.size from ⟨(HB0.out.trans (hb1.mono HB0.out.size)).trans (hbx.mono (HB0.out.trans (hb1.mono HB0.out.size)).size), by have := hb1.size; rw [World.size_alloc] at this; exact this⟩)
  clear hA hv hb1 hbx
  go_wp2_with fail
  refine HA.out.mono ?_
  rintro e w2 ⟨rv, v2, rfl, hbuf, hv2, hf2, -⟩
  have hbw : Below w.heap.size w w2 := H1.out.1.trans (hf2.1 _ (by rw [World.size_alloc]; omega))
  have hbx : Below w2.heap.size w2 (w2.alloc (.cells #[.int .i64 3, .int .u32 2, .string ⟨#[]⟩, .int .i64 0, .string ⟨#[]⟩, .int .i64 0, .int .u8 0, .int .u32 0, .int .u32 0, .slice none 0 0, .int .i64 1, .int .u32 4, .string ⟨#[]⟩, .int .i64 0, .string ⟨#[]⟩, .int .i64 0, .int .u8 0, .int .u32 0, .int .u32 0, .slice none 0 0] 49)) := (Below.refl _ _).alloc (Nat.le_refl _) _
  have HS := Lib.hid (samelist_any exL rv (.slice (some ⟨w2.heap.size, 0, none⟩) 2 2) (w2.alloc (.cells #[.int .i64 3, .int .u32 2, .string ⟨#[]⟩, .int .i64 0, .string ⟨#[]⟩, .int .i64 0, .int .u8 0, .int .u32 0, .int .u32 0, .slice none 0 0, .int .i64 1, .int .u32 4, .string ⟨#[]⟩, .int .i64 0, .string ⟨#[]⟩, .int .i64 0, .int .u8 0, .int .u32 0, .int .u32 0, .slice none 0 0] 49)) ((RpR.of_buf hbuf).below hbx) (rp_lit w2) (by decide))
  have H2 := Lib.hid (show VwM (w2.alloc (.cells #[.int .i64 3, .int .u32 2, .string ⟨#[]⟩, .int .i64 0, .string ⟨#[]⟩, .int .i64 0, .int .u8 0, .int .u32 0, .int .u32 0, .slice none 0 0, .int .i64 1, .int .u32 4, .string ⟨#[]⟩, .int .i64 0, .string ⟨#[]⟩, .int .i64 0, .int .u8 0, .int .u32 0, .int .u32 0, .slice none 0 0] 49)) _ vb ib v2 [3, 9, 12, 13] false ∧ Below w.heap.size w (w2.alloc (.cells #[.int .i64 3, .int .u32 2, .string ⟨#[]⟩, .int .i64 0, .string ⟨#[]⟩, .int .i64 0, .int .u8 0, .int .u32 0, .int .u32 0, .slice none 0 0, .int .i64 1, .int .u32 4, .string ⟨#[]⟩, .int .i64 0, .string ⟨#[]⟩, .int .i64 0, .int .u8 0, .int .u32 0, .int .u32 0, .slice none 0 0] 49)) from ⟨hv2.below hbx (Nat.le_refl _), hbw.trans (hbx.mono hbw.size)⟩)
  clear hbuf hv2 hf2 hbw hbx
  go_wp2_with fail
  refine HS.out.mono ?_
  rintro e w3 ⟨rfl, hb3⟩
  have H3 := Lib.hid (And.intro (H2.out.1.below hb3 (Nat.le_refl _)) (H2.out.2.trans (hb3.mono H2.out.2.size)))
  clear hb3
  go_wp2_with fail
  refine (vlen_any _ _ _ H3.out.1.vwr).mono ?_
  rintro e w4 ⟨rfl, rfl⟩
  go_wp2_with fail
  go_ret
  exact ⟨rfl, H3.out.2⟩
end Go.Proofs.YtponmnabbieafaaGreatDoor
