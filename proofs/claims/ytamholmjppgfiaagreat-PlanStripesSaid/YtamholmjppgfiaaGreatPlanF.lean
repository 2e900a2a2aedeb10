/- PlanOwn: the law's own walk. -/
import Derived.Test.YtamholmjppgfiaaGreatPlanE
set_option linter.unusedVariables false
set_option linter.unusedSimpArgs false
namespace Go.Proofs.YtamholmjppgfiaaGreat
open Go Go.RowKit Go.Shelf Go.Lib Go.Sort

theorem contains_any {B : Nat} {v : Value} {xs : List Int} {W : World} (h : Rd1 W B v (xs.map (Value.int .i64))) (x : Int) (hl : xs.length ≤ 1048576) :
    Calls Tryz.prog 15 #[v, .int .i64 x] W fun e w' => e = .returned (.bool (xs.contains x)) ∧ w' = W := by
  obtain ⟨A, cap, rfl, hcap, hc⟩ := h
  rw [List.length_map] at hcap hc ⊢
  by_cases h0 : 0 < xs.length
  · obtain ⟨b, o, rfl, -, hcl⟩ := hc h0
    have h := Tryz.slices_Contains_int b o xs.length cap xs x W (Nat.le_refl _) (by omega) (fun j hj => by
      rw [hcl j (.int .i64 (xs.getD j 0)) (by rw [List.getElem?_map, List.getElem?_eq_getElem hj, List.getD_eq_getElem?_getD, List.getElem?_eq_getElem hj]; rfl)])
    rw [List.take_of_length_le (Nat.le_refl _)] at h
    exact h
  · have h1 : xs = [] := List.eq_nil_of_length_eq_zero (by omega)
    subst h1
    exact Tryz.slices_Contains_int_empty A cap x W
theorem stripe_msg {st : Nat} (h0 : 0 < st) {us : List Int} {x : Int} (h : x ∈ (stripeL st us).map (fun x => 1 + x)) : x ≤ st := by
  obtain ⟨k, hk, rfl⟩ := List.mem_map.1 h
  have := stripe_small h0 k hk
  omega
theorem own_law {st ss : Nat} (h0 : 0 < st) {pa pb : Nat} (ha : pa < ss) (hb : pb < ss) (hne : pa ≠ pb) {kind : Int} (hk : kind = 1 ∨ kind = 7) (vl : List Int) (ib : Bool) (set : List Rng) :
    (forL st ss pa (some vl) kind ib set false).length = (forL st ss pb (some vl) kind ib set false).length ∧ ∀ x ∈ forL st ss pa (some vl) kind ib set false, (st : Int) < x → (forL st ss pb (some vl) kind ib set false).contains x = false := by
  have e1 : (0 ≤ (pa : Int) ∧ (pa : Int) < ss) := by omega
  have e2 : (0 ≤ (pb : Int) ∧ (pb : Int) < ss) := by omega
  unfold forL
  rw [if_pos e1, if_pos e2]
  rcases hk with rfl | rfl
  · unfold planL
    simp only [Option.isSome_some, if_true, true_or, ownL, List.length_cons, List.length_nil, true_and]
    intro x hx _
    rw [List.mem_singleton] at hx
    subst hx
    simp
    omega
  · unfold planL msgL
    simp only [show ¬ ((7 : Int) = 1 ∨ (7 : Int) = 2) by decide, show ¬ ((7 : Int) = 3 ∨ (7 : Int) = 4) by decide, show ¬ ((7 : Int) = 5) by decide, show ¬ ((7 : Int) = 6) by decide, if_false, if_true, Bool.false_eq_true]
    cases validB vl.length set with
    | false => simp
    | true =>
      simp only [if_true]
      refine ⟨by simp [ownL], fun x hx hgt => ?_⟩
      rw [List.mem_append] at hx
      have hx1 : x = 1 + (st : Int) + pa := by
        rcases hx with h | h
        · have := stripe_msg h0 h; omega
        · simpa [ownL] using h
      rw [Bool.eq_false_iff]
      intro hc
      rw [List.contains_iff_mem] at hc
      rw [List.mem_append] at hc
      rcases hc with h | h
      · have := stripe_msg h0 h; omega
      · have : x = 1 + (st : Int) + pb := by simpa [ownL] using h
        omega
theorem ex_srt123 : srtU [1, 2, 3] = [1, 2, 3] := by decide
theorem u32_123 (w : World) : U32 (w.alloc (.cells #[.int .u32 1, .int .u32 2, .int .u32 3] 45)) (w.alloc (.cells #[.int .u32 1, .int .u32 2, .int .u32 3] 45)).heap.size (.slice (some ⟨w.heap.size, 0, none⟩) 3 3) [1, 2, 3] :=
  ⟨_, _, rfl, by decide, fun _ => ⟨_, _, rfl, by rw [World.size_alloc]; omega, fun j u hj => by
    have h := Blk.made w 45 #[.int .u32 1, .int .u32 2, .int .u32 3]
    match j with
    | 0 => simp at hj; subst hj; exact h.cell 0
    | 1 => simp at hj; subst hj; exact h.cell 1
    | 2 => simp at hj; subst hj; exact h.cell 2
    | j + 3 => simp at hj⟩⟩
theorem v123_any (W : World) : Calls Tryz.prog 14 #[.slice (some ⟨W.heap.size, 0, none⟩) 3 3] (W.alloc (.cells #[.int .u32 1, .int .u32 2, .int .u32 3] 45)) fun e w' => ∃ vb, e = .returned (.pointer (some ⟨vb, 0, none⟩)) ∧ VwR w' w'.heap.size (some ⟨vb, 0, none⟩) [1, 2, 3] ∧ Below W.heap.size W w' := by
  refine (vnew_some [1, 2, 3] _ _ (u32_123 W) (by decide) (by decide)).mono ?_
  rintro e w' ⟨vb, rfl, hv, hb⟩
  rw [ex_srt123] at hv
  exact ⟨vb, rfl, hv, ((Below.refl _ W).alloc (Nat.le_refl _) _).trans (hb.mono (by rw [World.size_alloc]; omega))⟩

set_option maxRecDepth 100000 in
set_option maxHeartbeats 6400000 in
theorem own_few (a b p q : Nat) (tg mb : ByteArray) (kind : Int) (items mode : Int) (sil : Bool) (fl : Int) (A D : Option Addr) (n cap nd cd : Nat) (l : List RB) (w : World) (ha : a < 256) (hb : b < 256) (hp : p < 256) (hq : q < 256) (hR : RgL w w.heap.size (.slice A n cap) (l.map RB.rng)) (hfew : fewC tg mb n nd = false) :
    Calls Tryz.prog 4 #[.agg #[.int .u8 a, .int .u8 b], .agg #[.int .u8 p, .int .u8 q], .agg #[.string tg, .int .i64 kind, .string mb, .slice A n cap, .int .i64 items, .int .i64 mode, .bool sil, .int .u8 fl, .slice D nd cd]] w fun e w' => e = .returned (.bool true) ∧ Below w.heap.size w w' := by
  have hRn : n = l.length := by
    obtain ⟨A', c', he, -⟩ := hR
    injection he with h1 h2 h3
    rw [h2, List.length_map]
  have hb0 : Below w.heap.size w (w.alloc (.cells #[.int .u8 a, .int .u8 b] 22)) := (Below.refl _ w).alloc (Nat.le_refl _) _
  have hb1 := hb0.alloc hb0.size (.cells #[.int .u8 p, .int .u8 q] 22)
  have hb2 := hb1.alloc hb1.size (.cells #[.string tg, .int .i64 kind, .string mb, .slice A n cap, .int .i64 items, .int .i64 mode, .bool sil, .int .u8 fl, .slice D nd cd] 30)
  have kx := ((Blk.made w 22 #[.int .u8 a, .int .u8 b]).past (.cells #[.int .u8 p, .int .u8 q] 22)).past (.cells #[.string tg, .int .i64 kind, .string mb, .slice A n cap, .int .i64 items, .int .i64 mode, .bool sil, .int .u8 fl, .slice D nd cd] 30)
  have ks := (Blk.made (w.alloc (.cells #[.int .u8 a, .int .u8 b] 22)) 22 #[.int .u8 p, .int .u8 q]).past (.cells #[.string tg, .int .i64 kind, .string mb, .slice A n cap, .int .i64 items, .int .i64 mode, .bool sil, .int .u8 fl, .slice D nd cd] 30)
  have kc := Blk.made ((w.alloc (.cells #[.int .u8 a, .int .u8 b] 22)).alloc (.cells #[.int .u8 p, .int .u8 q] 22)) 30 #[.string tg, .int .i64 kind, .string mb, .slice A n cap, .int .i64 items, .int .i64 mode, .bool sil, .int .u8 fl, .slice D nd cd]
  rw [World.size_alloc] at ks
  rw [World.size_alloc, World.size_alloc] at kc
  have hlay := layout_any a b ha hb
  obtain ⟨st, hst⟩ : ∃ st, lSt a = st := ⟨_, rfl⟩
  obtain ⟨ss, hss⟩ : ∃ ss, lSs b = ss := ⟨_, rfl⟩
  have hs1 : 0 < st ∧ st ≤ 16 := hst ▸ lSt_pos a
  have hs2 : ss ≤ 16 := hss ▸ lSs_le b
  rw [hst, hss] at hlay
  have HY := Lib.hid hlay
  have HA := Lib.hid (fun W => alive_any W)
  have HF := Lib.hid (fun W => fewc_any tg mb kind items mode sil fl A D n cap nd cd W)
  obtain ⟨f, hf⟩ : ∃ f, fewC tg mb n nd = f := ⟨_, rfl⟩
  have hfl : f = true → mb.size ≤ 300 ∧ n ≤ 60 := fun h => by
    rw [h] at hf
    unfold fewC at hf
    simp only [Bool.and_eq_true, decide_eq_true_eq] at hf
    exact ⟨hf.2.1, hf.2.2.1⟩
  rw [hf] at HF
  rw [hf] at hfew
  subst hfew
  clear hf hlay
  have B_0 := Lib.hid hb2
  have X_0 := Lib.hid kx
  have S_0 := Lib.hid ks
  have C_0 := Lib.hid kc
  have R_0 := Lib.hid ((hR.below hb2 (Nat.le_refl _)).mono hb2.size)
  have HP := Lib.hid (And.intro hRn hfl)
  clear hb0 hb1 hb2 kx ks kc hR hRn hfl
  go_enter Tryz.func4, Tryz.ntmps4
  go_wp2_with fail
  refine (HY.out _).mono ?_
  rintro e w1 ⟨rfl, hb1⟩
  have B_1 := Lib.hid (B_0.out.trans (hb1.mono B_0.out.size))
  have X_1 := Lib.hid (X_0.out.below hb1 X_0.out.lt)
  have S_1 := Lib.hid (S_0.out.below hb1 S_0.out.lt)
  have C_1 := Lib.hid (C_0.out.below hb1 C_0.out.lt)
  have R_1 := Lib.hid ((R_0.out.below hb1 (Nat.le_refl _)).mono hb1.size)
  clear B_0 X_0 S_0 C_0 R_0 hb1
  have hbl : Below w1.heap.size w1 (w1.alloc (.cells #[.int .i64 st, .int .i64 ss] 34)) := (Below.refl _ _).alloc (Nat.le_refl _) _
  have B_2 := Lib.hid (B_1.out.trans (hbl.mono B_1.out.size))
  have X_2 := Lib.hid (X_1.out.below hbl X_1.out.lt)
  have S_2 := Lib.hid (S_1.out.below hbl S_1.out.lt)
  have C_2 := Lib.hid (C_1.out.below hbl C_1.out.lt)
  have R_2 := Lib.hid ((R_1.out.below hbl (Nat.le_refl _)).mono hbl.size)
  have Y_2 := Lib.hid (Blk.made w1 34 #[.int .i64 st, .int .i64 ss])
  clear B_1 X_1 S_1 C_1 R_1 hbl
  have c0 : (w1.alloc (.cells #[.int .i64 st, .int .i64 ss] 34)).cell? ⟨w.heap.size + 2, 0, none⟩ = some (.string tg) := C_2.out.cell 0
  have c1 : (w1.alloc (.cells #[.int .i64 st, .int .i64 ss] 34)).cell? ⟨w.heap.size + 2, 1, none⟩ = some (.int .i64 kind) := C_2.out.cell 1
  have c2 : (w1.alloc (.cells #[.int .i64 st, .int .i64 ss] 34)).cell? ⟨w.heap.size + 2, 2, none⟩ = some (.string mb) := C_2.out.cell 2
  have c3 : (w1.alloc (.cells #[.int .i64 st, .int .i64 ss] 34)).cell? ⟨w.heap.size + 2, 3, none⟩ = some (.slice A n cap) := C_2.out.cell 3
  have c4 : (w1.alloc (.cells #[.int .i64 st, .int .i64 ss] 34)).cell? ⟨w.heap.size + 2, 4, none⟩ = some (.int .i64 items) := C_2.out.cell 4
  have c5 : (w1.alloc (.cells #[.int .i64 st, .int .i64 ss] 34)).cell? ⟨w.heap.size + 2, 5, none⟩ = some (.int .i64 mode) := C_2.out.cell 5
  have c6 : (w1.alloc (.cells #[.int .i64 st, .int .i64 ss] 34)).cell? ⟨w.heap.size + 2, 6, none⟩ = some (.bool sil) := C_2.out.cell 6
  have c7 : (w1.alloc (.cells #[.int .i64 st, .int .i64 ss] 34)).cell? ⟨w.heap.size + 2, 7, none⟩ = some (.int .u8 fl) := C_2.out.cell 7
  have c8 : (w1.alloc (.cells #[.int .i64 st, .int .i64 ss] 34)).cell? ⟨w.heap.size + 2, 8, none⟩ = some (.slice D nd cd) := C_2.out.cell 8
  go_wp2_with fail
  refine (HF.out _).mono ?_
  rintro e w2 ⟨rfl, hb2⟩
  have B_3 := Lib.hid (B_2.out.trans (hb2.mono B_2.out.size))
  have X_3 := Lib.hid (X_2.out.below hb2 X_2.out.lt)
  have S_3 := Lib.hid (S_2.out.below hb2 S_2.out.lt)
  have C_3 := Lib.hid (C_2.out.below hb2 C_2.out.lt)
  have R_3 := Lib.hid ((R_2.out.below hb2 (Nat.le_refl _)).mono hb2.size)
  have Y_3 := Lib.hid (Y_2.out.below hb2 Y_2.out.lt)
  clear B_2 X_2 S_2 C_2 R_2 Y_2 hb2 c0 c1 c2 c3 c4 c5 c6 c7 c8
  have c1 : w2.cell? ⟨w.heap.size + 2, 1, none⟩ = some (.int .i64 kind) := C_3.out.cell 1
  have c4 : w2.cell? ⟨w.heap.size + 2, 4, none⟩ = some (.int .i64 items) := C_3.out.cell 4
  have y1 : w2.cell? ⟨w1.heap.size, 1, none⟩ = some (.int .i64 ss) := Y_3.out.cell 1
  go_wp2_with fail
  refine (HA.out _).mono ?_
  rintro e wz ⟨rfl, hbz⟩
  have B_4 := Lib.hid (B_3.out.trans (hbz.mono B_3.out.size))
  have X_4 := Lib.hid (X_3.out.below hbz X_3.out.lt)
  have S_4 := Lib.hid (S_3.out.below hbz S_3.out.lt)
  have C_4 := Lib.hid (C_3.out.below hbz C_3.out.lt)
  have R_4 := Lib.hid ((R_3.out.below hbz (Nat.le_refl _)).mono hbz.size)
  have Y_4 := Lib.hid (Y_3.out.below hbz Y_3.out.lt)
  clear B_3 X_3 S_3 C_3 R_3 Y_3 hbz
  go_wp2_with fail
  go_ret
  exact ⟨rfl, B_4.out⟩

set_option maxRecDepth 100000 in
set_option maxHeartbeats 6400000 in
theorem own_kind (a b p q : Nat) (tg mb : ByteArray) (kind : Int) (items mode : Int) (sil : Bool) (fl : Int) (A D : Option Addr) (n cap nd cd : Nat) (l : List RB) (w : World) (ha : a < 256) (hb : b < 256) (hp : p < 256) (hq : q < 256) (hR : RgL w w.heap.size (.slice A n cap) (l.map RB.rng)) (hk1 : ¬ (kind = 1)) (hk7 : ¬ (kind = 7)) :
    Calls Tryz.prog 4 #[.agg #[.int .u8 a, .int .u8 b], .agg #[.int .u8 p, .int .u8 q], .agg #[.string tg, .int .i64 kind, .string mb, .slice A n cap, .int .i64 items, .int .i64 mode, .bool sil, .int .u8 fl, .slice D nd cd]] w fun e w' => e = .returned (.bool true) ∧ Below w.heap.size w w' := by
  have hRn : n = l.length := by
    obtain ⟨A', c', he, -⟩ := hR
    injection he with h1 h2 h3
    rw [h2, List.length_map]
  have hb0 : Below w.heap.size w (w.alloc (.cells #[.int .u8 a, .int .u8 b] 22)) := (Below.refl _ w).alloc (Nat.le_refl _) _
  have hb1 := hb0.alloc hb0.size (.cells #[.int .u8 p, .int .u8 q] 22)
  have hb2 := hb1.alloc hb1.size (.cells #[.string tg, .int .i64 kind, .string mb, .slice A n cap, .int .i64 items, .int .i64 mode, .bool sil, .int .u8 fl, .slice D nd cd] 30)
  have kx := ((Blk.made w 22 #[.int .u8 a, .int .u8 b]).past (.cells #[.int .u8 p, .int .u8 q] 22)).past (.cells #[.string tg, .int .i64 kind, .string mb, .slice A n cap, .int .i64 items, .int .i64 mode, .bool sil, .int .u8 fl, .slice D nd cd] 30)
  have ks := (Blk.made (w.alloc (.cells #[.int .u8 a, .int .u8 b] 22)) 22 #[.int .u8 p, .int .u8 q]).past (.cells #[.string tg, .int .i64 kind, .string mb, .slice A n cap, .int .i64 items, .int .i64 mode, .bool sil, .int .u8 fl, .slice D nd cd] 30)
  have kc := Blk.made ((w.alloc (.cells #[.int .u8 a, .int .u8 b] 22)).alloc (.cells #[.int .u8 p, .int .u8 q] 22)) 30 #[.string tg, .int .i64 kind, .string mb, .slice A n cap, .int .i64 items, .int .i64 mode, .bool sil, .int .u8 fl, .slice D nd cd]
  rw [World.size_alloc] at ks
  rw [World.size_alloc, World.size_alloc] at kc
  have hlay := layout_any a b ha hb
  obtain ⟨st, hst⟩ : ∃ st, lSt a = st := ⟨_, rfl⟩
  obtain ⟨ss, hss⟩ : ∃ ss, lSs b = ss := ⟨_, rfl⟩
  have hs1 : 0 < st ∧ st ≤ 16 := hst ▸ lSt_pos a
  have hs2 : ss ≤ 16 := hss ▸ lSs_le b
  rw [hst, hss] at hlay
  have HY := Lib.hid hlay
  have HA := Lib.hid (fun W => alive_any W)
  have HF := Lib.hid (fun W => fewc_any tg mb kind items mode sil fl A D n cap nd cd W)
  obtain ⟨f, hf⟩ : ∃ f, fewC tg mb n nd = f := ⟨_, rfl⟩
  have hfl : f = true → mb.size ≤ 300 ∧ n ≤ 60 := fun h => by
    rw [h] at hf
    unfold fewC at hf
    simp only [Bool.and_eq_true, decide_eq_true_eq] at hf
    exact ⟨hf.2.1, hf.2.2.1⟩
  rw [hf] at HF
  clear hf hlay
  have B_0 := Lib.hid hb2
  have X_0 := Lib.hid kx
  have S_0 := Lib.hid ks
  have C_0 := Lib.hid kc
  have R_0 := Lib.hid ((hR.below hb2 (Nat.le_refl _)).mono hb2.size)
  have HP := Lib.hid (And.intro hRn hfl)
  clear hb0 hb1 hb2 kx ks kc hR hRn hfl
  have hk1b : (kind == 1) = false := by simpa using hk1
  have hk7b : (kind == 7) = false := by simpa using hk7
  have hk1n : (kind != 1) = true := by simpa using hk1
  have hk7n : (kind != 7) = true := by simpa using hk7
  cases f
  · go_enter Tryz.func4, Tryz.ntmps4
    go_wp2_with fail
    refine (HY.out _).mono ?_
    rintro e w1 ⟨rfl, hb1⟩
    have B_1 := Lib.hid (B_0.out.trans (hb1.mono B_0.out.size))
    have X_1 := Lib.hid (X_0.out.below hb1 X_0.out.lt)
    have S_1 := Lib.hid (S_0.out.below hb1 S_0.out.lt)
    have C_1 := Lib.hid (C_0.out.below hb1 C_0.out.lt)
    have R_1 := Lib.hid ((R_0.out.below hb1 (Nat.le_refl _)).mono hb1.size)
    clear B_0 X_0 S_0 C_0 R_0 hb1
    have hbl : Below w1.heap.size w1 (w1.alloc (.cells #[.int .i64 st, .int .i64 ss] 34)) := (Below.refl _ _).alloc (Nat.le_refl _) _
    have B_2 := Lib.hid (B_1.out.trans (hbl.mono B_1.out.size))
    have X_2 := Lib.hid (X_1.out.below hbl X_1.out.lt)
    have S_2 := Lib.hid (S_1.out.below hbl S_1.out.lt)
    have C_2 := Lib.hid (C_1.out.below hbl C_1.out.lt)
    have R_2 := Lib.hid ((R_1.out.below hbl (Nat.le_refl _)).mono hbl.size)
    have Y_2 := Lib.hid (Blk.made w1 34 #[.int .i64 st, .int .i64 ss])
    clear B_1 X_1 S_1 C_1 R_1 hbl
    have c0 : (w1.alloc (.cells #[.int .i64 st, .int .i64 ss] 34)).cell? ⟨w.heap.size + 2, 0, none⟩ = some (.string tg) := C_2.out.cell 0
    have c1 : (w1.alloc (.cells #[.int .i64 st, .int .i64 ss] 34)).cell? ⟨w.heap.size + 2, 1, none⟩ = some (.int .i64 kind) := C_2.out.cell 1
    have c2 : (w1.alloc (.cells #[.int .i64 st, .int .i64 ss] 34)).cell? ⟨w.heap.size + 2, 2, none⟩ = some (.string mb) := C_2.out.cell 2
    have c3 : (w1.alloc (.cells #[.int .i64 st, .int .i64 ss] 34)).cell? ⟨w.heap.size + 2, 3, none⟩ = some (.slice A n cap) := C_2.out.cell 3
    have c4 : (w1.alloc (.cells #[.int .i64 st, .int .i64 ss] 34)).cell? ⟨w.heap.size + 2, 4, none⟩ = some (.int .i64 items) := C_2.out.cell 4
    have c5 : (w1.alloc (.cells #[.int .i64 st, .int .i64 ss] 34)).cell? ⟨w.heap.size + 2, 5, none⟩ = some (.int .i64 mode) := C_2.out.cell 5
    have c6 : (w1.alloc (.cells #[.int .i64 st, .int .i64 ss] 34)).cell? ⟨w.heap.size + 2, 6, none⟩ = some (.bool sil) := C_2.out.cell 6
    have c7 : (w1.alloc (.cells #[.int .i64 st, .int .i64 ss] 34)).cell? ⟨w.heap.size + 2, 7, none⟩ = some (.int .u8 fl) := C_2.out.cell 7
    have c8 : (w1.alloc (.cells #[.int .i64 st, .int .i64 ss] 34)).cell? ⟨w.heap.size + 2, 8, none⟩ = some (.slice D nd cd) := C_2.out.cell 8
    go_wp2_with fail
    refine (HF.out _).mono ?_
    rintro e w2 ⟨rfl, hb2⟩
    have B_3 := Lib.hid (B_2.out.trans (hb2.mono B_2.out.size))
    have X_3 := Lib.hid (X_2.out.below hb2 X_2.out.lt)
    have S_3 := Lib.hid (S_2.out.below hb2 S_2.out.lt)
    have C_3 := Lib.hid (C_2.out.below hb2 C_2.out.lt)
    have R_3 := Lib.hid ((R_2.out.below hb2 (Nat.le_refl _)).mono hb2.size)
    have Y_3 := Lib.hid (Y_2.out.below hb2 Y_2.out.lt)
    clear B_2 X_2 S_2 C_2 R_2 Y_2 hb2 c0 c1 c2 c3 c4 c5 c6 c7 c8
    have c1 : w2.cell? ⟨w.heap.size + 2, 1, none⟩ = some (.int .i64 kind) := C_3.out.cell 1
    have c4 : w2.cell? ⟨w.heap.size + 2, 4, none⟩ = some (.int .i64 items) := C_3.out.cell 4
    have y1 : w2.cell? ⟨w1.heap.size, 1, none⟩ = some (.int .i64 ss) := Y_3.out.cell 1
    go_wp2_with fail
    refine (HA.out _).mono ?_
    rintro e wz ⟨rfl, hbz⟩
    have B_4 := Lib.hid (B_3.out.trans (hbz.mono B_3.out.size))
    have X_4 := Lib.hid (X_3.out.below hbz X_3.out.lt)
    have S_4 := Lib.hid (S_3.out.below hbz S_3.out.lt)
    have C_4 := Lib.hid (C_3.out.below hbz C_3.out.lt)
    have R_4 := Lib.hid ((R_3.out.below hbz (Nat.le_refl _)).mono hbz.size)
    have Y_4 := Lib.hid (Y_3.out.below hbz Y_3.out.lt)
    clear B_3 X_3 S_3 C_3 R_3 Y_3 hbz
    go_wp2_with fail
    go_ret
    exact ⟨rfl, B_4.out⟩
  · go_enter Tryz.func4, Tryz.ntmps4
    go_wp2_with fail
    refine (HY.out _).mono ?_
    rintro e w1 ⟨rfl, hb1⟩
    have B_1 := Lib.hid (B_0.out.trans (hb1.mono B_0.out.size))
    have X_1 := Lib.hid (X_0.out.below hb1 X_0.out.lt)
    have S_1 := Lib.hid (S_0.out.below hb1 S_0.out.lt)
    have C_1 := Lib.hid (C_0.out.below hb1 C_0.out.lt)
    have R_1 := Lib.hid ((R_0.out.below hb1 (Nat.le_refl _)).mono hb1.size)
    clear B_0 X_0 S_0 C_0 R_0 hb1
    have hbl : Below w1.heap.size w1 (w1.alloc (.cells #[.int .i64 st, .int .i64 ss] 34)) := (Below.refl _ _).alloc (Nat.le_refl _) _
    have B_2 := Lib.hid (B_1.out.trans (hbl.mono B_1.out.size))
    have X_2 := Lib.hid (X_1.out.below hbl X_1.out.lt)
    have S_2 := Lib.hid (S_1.out.below hbl S_1.out.lt)
    have C_2 := Lib.hid (C_1.out.below hbl C_1.out.lt)
    have R_2 := Lib.hid ((R_1.out.below hbl (Nat.le_refl _)).mono hbl.size)
    have Y_2 := Lib.hid (Blk.made w1 34 #[.int .i64 st, .int .i64 ss])
    clear B_1 X_1 S_1 C_1 R_1 hbl
    have c0 : (w1.alloc (.cells #[.int .i64 st, .int .i64 ss] 34)).cell? ⟨w.heap.size + 2, 0, none⟩ = some (.string tg) := C_2.out.cell 0
    have c1 : (w1.alloc (.cells #[.int .i64 st, .int .i64 ss] 34)).cell? ⟨w.heap.size + 2, 1, none⟩ = some (.int .i64 kind) := C_2.out.cell 1
    have c2 : (w1.alloc (.cells #[.int .i64 st, .int .i64 ss] 34)).cell? ⟨w.heap.size + 2, 2, none⟩ = some (.string mb) := C_2.out.cell 2
    have c3 : (w1.alloc (.cells #[.int .i64 st, .int .i64 ss] 34)).cell? ⟨w.heap.size + 2, 3, none⟩ = some (.slice A n cap) := C_2.out.cell 3
    have c4 : (w1.alloc (.cells #[.int .i64 st, .int .i64 ss] 34)).cell? ⟨w.heap.size + 2, 4, none⟩ = some (.int .i64 items) := C_2.out.cell 4
    have c5 : (w1.alloc (.cells #[.int .i64 st, .int .i64 ss] 34)).cell? ⟨w.heap.size + 2, 5, none⟩ = some (.int .i64 mode) := C_2.out.cell 5
    have c6 : (w1.alloc (.cells #[.int .i64 st, .int .i64 ss] 34)).cell? ⟨w.heap.size + 2, 6, none⟩ = some (.bool sil) := C_2.out.cell 6
    have c7 : (w1.alloc (.cells #[.int .i64 st, .int .i64 ss] 34)).cell? ⟨w.heap.size + 2, 7, none⟩ = some (.int .u8 fl) := C_2.out.cell 7
    have c8 : (w1.alloc (.cells #[.int .i64 st, .int .i64 ss] 34)).cell? ⟨w.heap.size + 2, 8, none⟩ = some (.slice D nd cd) := C_2.out.cell 8
    go_wp2_with fail
    refine (HF.out _).mono ?_
    rintro e w2 ⟨rfl, hb2⟩
    have B_3 := Lib.hid (B_2.out.trans (hb2.mono B_2.out.size))
    have X_3 := Lib.hid (X_2.out.below hb2 X_2.out.lt)
    have S_3 := Lib.hid (S_2.out.below hb2 S_2.out.lt)
    have C_3 := Lib.hid (C_2.out.below hb2 C_2.out.lt)
    have R_3 := Lib.hid ((R_2.out.below hb2 (Nat.le_refl _)).mono hb2.size)
    have Y_3 := Lib.hid (Y_2.out.below hb2 Y_2.out.lt)
    clear B_2 X_2 S_2 C_2 R_2 Y_2 hb2 c0 c1 c2 c3 c4 c5 c6 c7 c8
    have c1 : w2.cell? ⟨w.heap.size + 2, 1, none⟩ = some (.int .i64 kind) := C_3.out.cell 1
    have c4 : w2.cell? ⟨w.heap.size + 2, 4, none⟩ = some (.int .i64 items) := C_3.out.cell 4
    have y1 : w2.cell? ⟨w1.heap.size, 1, none⟩ = some (.int .i64 ss) := Y_3.out.cell 1
    go_wp2_with fail
    refine (HA.out _).mono ?_
    rintro e wz ⟨rfl, hbz⟩
    have B_4 := Lib.hid (B_3.out.trans (hbz.mono B_3.out.size))
    have X_4 := Lib.hid (X_3.out.below hbz X_3.out.lt)
    have S_4 := Lib.hid (S_3.out.below hbz S_3.out.lt)
    have C_4 := Lib.hid (C_3.out.below hbz C_3.out.lt)
    have R_4 := Lib.hid ((R_3.out.below hbz (Nat.le_refl _)).mono hbz.size)
    have Y_4 := Lib.hid (Y_3.out.below hbz Y_3.out.lt)
    clear B_3 X_3 S_3 C_3 R_3 Y_3 hbz
    go_wp2_with fail
    go_ret
    exact ⟨rfl, B_4.out⟩

set_option maxRecDepth 100000 in
set_option maxHeartbeats 6400000 in
theorem own_marks1 (a b p q : Nat) (tg mb : ByteArray) (items mode : Int) (sil : Bool) (fl : Int) (A D : Option Addr) (n cap nd cd : Nat) (l : List RB) (w : World) (ha : a < 256) (hb : b < 256) (hp : p < 256) (hq : q < 256) (hR : RgL w w.heap.size (.slice A n cap) (l.map RB.rng)) (hmk : marksB items = true) :
    Calls Tryz.prog 4 #[.agg #[.int .u8 a, .int .u8 b], .agg #[.int .u8 p, .int .u8 q], .agg #[.string tg, .int .i64 1, .string mb, .slice A n cap, .int .i64 items, .int .i64 mode, .bool sil, .int .u8 fl, .slice D nd cd]] w fun e w' => e = .returned (.bool true) ∧ Below w.heap.size w w' := by
  have hRn : n = l.length := by
    obtain ⟨A', c', he, -⟩ := hR
    injection he with h1 h2 h3
    rw [h2, List.length_map]
  have hb0 : Below w.heap.size w (w.alloc (.cells #[.int .u8 a, .int .u8 b] 22)) := (Below.refl _ w).alloc (Nat.le_refl _) _
  have hb1 := hb0.alloc hb0.size (.cells #[.int .u8 p, .int .u8 q] 22)
  have hb2 := hb1.alloc hb1.size (.cells #[.string tg, .int .i64 1, .string mb, .slice A n cap, .int .i64 items, .int .i64 mode, .bool sil, .int .u8 fl, .slice D nd cd] 30)
  have kx := ((Blk.made w 22 #[.int .u8 a, .int .u8 b]).past (.cells #[.int .u8 p, .int .u8 q] 22)).past (.cells #[.string tg, .int .i64 1, .string mb, .slice A n cap, .int .i64 items, .int .i64 mode, .bool sil, .int .u8 fl, .slice D nd cd] 30)
  have ks := (Blk.made (w.alloc (.cells #[.int .u8 a, .int .u8 b] 22)) 22 #[.int .u8 p, .int .u8 q]).past (.cells #[.string tg, .int .i64 1, .string mb, .slice A n cap, .int .i64 items, .int .i64 mode, .bool sil, .int .u8 fl, .slice D nd cd] 30)
  have kc := Blk.made ((w.alloc (.cells #[.int .u8 a, .int .u8 b] 22)).alloc (.cells #[.int .u8 p, .int .u8 q] 22)) 30 #[.string tg, .int .i64 1, .string mb, .slice A n cap, .int .i64 items, .int .i64 mode, .bool sil, .int .u8 fl, .slice D nd cd]
  rw [World.size_alloc] at ks
  rw [World.size_alloc, World.size_alloc] at kc
  have hlay := layout_any a b ha hb
  obtain ⟨st, hst⟩ : ∃ st, lSt a = st := ⟨_, rfl⟩
  obtain ⟨ss, hss⟩ : ∃ ss, lSs b = ss := ⟨_, rfl⟩
  have hs1 : 0 < st ∧ st ≤ 16 := hst ▸ lSt_pos a
  have hs2 : ss ≤ 16 := hss ▸ lSs_le b
  rw [hst, hss] at hlay
  have HY := Lib.hid hlay
  have HA := Lib.hid (fun W => alive_any W)
  have HF := Lib.hid (fun W => fewc_any tg mb 1 items mode sil fl A D n cap nd cd W)
  obtain ⟨f, hf⟩ : ∃ f, fewC tg mb n nd = f := ⟨_, rfl⟩
  have hfl : f = true → mb.size ≤ 300 ∧ n ≤ 60 := fun h => by
    rw [h] at hf
    unfold fewC at hf
    simp only [Bool.and_eq_true, decide_eq_true_eq] at hf
    exact ⟨hf.2.1, hf.2.2.1⟩
  rw [hf] at HF
  clear hf hlay
  have B_0 := Lib.hid hb2
  have X_0 := Lib.hid kx
  have S_0 := Lib.hid ks
  have C_0 := Lib.hid kc
  have R_0 := Lib.hid ((hR.below hb2 (Nat.le_refl _)).mono hb2.size)
  have HP := Lib.hid (And.intro hRn hfl)
  clear hb0 hb1 hb2 kx ks kc hR hRn hfl
  have hm1 : (bits BinOp.and IntKind.i64 items 16 != 0) = true := hmk
  have hm2 : ¬ (bits BinOp.and IntKind.i64 items 16 = 0) := by simpa using hm1
  have hm3 : (bits BinOp.and IntKind.i64 items 16 == 0) = false := by simpa using hm2
  clear hmk
  cases f
  · go_enter Tryz.func4, Tryz.ntmps4
    go_wp2_with fail
    refine (HY.out _).mono ?_
    rintro e w1 ⟨rfl, hb1⟩
    have B_1 := Lib.hid (B_0.out.trans (hb1.mono B_0.out.size))
    have X_1 := Lib.hid (X_0.out.below hb1 X_0.out.lt)
    have S_1 := Lib.hid (S_0.out.below hb1 S_0.out.lt)
    have C_1 := Lib.hid (C_0.out.below hb1 C_0.out.lt)
    have R_1 := Lib.hid ((R_0.out.below hb1 (Nat.le_refl _)).mono hb1.size)
    clear B_0 X_0 S_0 C_0 R_0 hb1
    have hbl : Below w1.heap.size w1 (w1.alloc (.cells #[.int .i64 st, .int .i64 ss] 34)) := (Below.refl _ _).alloc (Nat.le_refl _) _
    have B_2 := Lib.hid (B_1.out.trans (hbl.mono B_1.out.size))
    have X_2 := Lib.hid (X_1.out.below hbl X_1.out.lt)
    have S_2 := Lib.hid (S_1.out.below hbl S_1.out.lt)
    have C_2 := Lib.hid (C_1.out.below hbl C_1.out.lt)
    have R_2 := Lib.hid ((R_1.out.below hbl (Nat.le_refl _)).mono hbl.size)
    have Y_2 := Lib.hid (Blk.made w1 34 #[.int .i64 st, .int .i64 ss])
    clear B_1 X_1 S_1 C_1 R_1 hbl
    have c0 : (w1.alloc (.cells #[.int .i64 st, .int .i64 ss] 34)).cell? ⟨w.heap.size + 2, 0, none⟩ = some (.string tg) := C_2.out.cell 0
    have c1 : (w1.alloc (.cells #[.int .i64 st, .int .i64 ss] 34)).cell? ⟨w.heap.size + 2, 1, none⟩ = some (.int .i64 1) := C_2.out.cell 1
    have c2 : (w1.alloc (.cells #[.int .i64 st, .int .i64 ss] 34)).cell? ⟨w.heap.size + 2, 2, none⟩ = some (.string mb) := C_2.out.cell 2
    have c3 : (w1.alloc (.cells #[.int .i64 st, .int .i64 ss] 34)).cell? ⟨w.heap.size + 2, 3, none⟩ = some (.slice A n cap) := C_2.out.cell 3
    have c4 : (w1.alloc (.cells #[.int .i64 st, .int .i64 ss] 34)).cell? ⟨w.heap.size + 2, 4, none⟩ = some (.int .i64 items) := C_2.out.cell 4
    have c5 : (w1.alloc (.cells #[.int .i64 st, .int .i64 ss] 34)).cell? ⟨w.heap.size + 2, 5, none⟩ = some (.int .i64 mode) := C_2.out.cell 5
    have c6 : (w1.alloc (.cells #[.int .i64 st, .int .i64 ss] 34)).cell? ⟨w.heap.size + 2, 6, none⟩ = some (.bool sil) := C_2.out.cell 6
    have c7 : (w1.alloc (.cells #[.int .i64 st, .int .i64 ss] 34)).cell? ⟨w.heap.size + 2, 7, none⟩ = some (.int .u8 fl) := C_2.out.cell 7
    have c8 : (w1.alloc (.cells #[.int .i64 st, .int .i64 ss] 34)).cell? ⟨w.heap.size + 2, 8, none⟩ = some (.slice D nd cd) := C_2.out.cell 8
    go_wp2_with fail
    refine (HF.out _).mono ?_
    rintro e w2 ⟨rfl, hb2⟩
    have B_3 := Lib.hid (B_2.out.trans (hb2.mono B_2.out.size))
    have X_3 := Lib.hid (X_2.out.below hb2 X_2.out.lt)
    have S_3 := Lib.hid (S_2.out.below hb2 S_2.out.lt)
    have C_3 := Lib.hid (C_2.out.below hb2 C_2.out.lt)
    have R_3 := Lib.hid ((R_2.out.below hb2 (Nat.le_refl _)).mono hb2.size)
    have Y_3 := Lib.hid (Y_2.out.below hb2 Y_2.out.lt)
    clear B_2 X_2 S_2 C_2 R_2 Y_2 hb2 c0 c1 c2 c3 c4 c5 c6 c7 c8
    have c1 : w2.cell? ⟨w.heap.size + 2, 1, none⟩ = some (.int .i64 1) := C_3.out.cell 1
    have c4 : w2.cell? ⟨w.heap.size + 2, 4, none⟩ = some (.int .i64 items) := C_3.out.cell 4
    have y1 : w2.cell? ⟨w1.heap.size, 1, none⟩ = some (.int .i64 ss) := Y_3.out.cell 1
    go_wp2_with fail
    refine (HA.out _).mono ?_
    rintro e wz ⟨rfl, hbz⟩
    have B_4 := Lib.hid (B_3.out.trans (hbz.mono B_3.out.size))
    have X_4 := Lib.hid (X_3.out.below hbz X_3.out.lt)
    have S_4 := Lib.hid (S_3.out.below hbz S_3.out.lt)
    have C_4 := Lib.hid (C_3.out.below hbz C_3.out.lt)
    have R_4 := Lib.hid ((R_3.out.below hbz (Nat.le_refl _)).mono hbz.size)
    have Y_4 := Lib.hid (Y_3.out.below hbz Y_3.out.lt)
    clear B_3 X_3 S_3 C_3 R_3 Y_3 hbz
    go_wp2_with fail
    go_ret
    exact ⟨rfl, B_4.out⟩
  · go_enter Tryz.func4, Tryz.ntmps4
    go_wp2_with fail
    refine (HY.out _).mono ?_
    rintro e w1 ⟨rfl, hb1⟩
    have B_1 := Lib.hid (B_0.out.trans (hb1.mono B_0.out.size))
    have X_1 := Lib.hid (X_0.out.below hb1 X_0.out.lt)
    have S_1 := Lib.hid (S_0.out.below hb1 S_0.out.lt)
    have C_1 := Lib.hid (C_0.out.below hb1 C_0.out.lt)
    have R_1 := Lib.hid ((R_0.out.below hb1 (Nat.le_refl _)).mono hb1.size)
    clear B_0 X_0 S_0 C_0 R_0 hb1
    have hbl : Below w1.heap.size w1 (w1.alloc (.cells #[.int .i64 st, .int .i64 ss] 34)) := (Below.refl _ _).alloc (Nat.le_refl _) _
    have B_2 := Lib.hid (B_1.out.trans (hbl.mono B_1.out.size))
    have X_2 := Lib.hid (X_1.out.below hbl X_1.out.lt)
    have S_2 := Lib.hid (S_1.out.below hbl S_1.out.lt)
    have C_2 := Lib.hid (C_1.out.below hbl C_1.out.lt)
    have R_2 := Lib.hid ((R_1.out.below hbl (Nat.le_refl _)).mono hbl.size)
    have Y_2 := Lib.hid (Blk.made w1 34 #[.int .i64 st, .int .i64 ss])
    clear B_1 X_1 S_1 C_1 R_1 hbl
    have c0 : (w1.alloc (.cells #[.int .i64 st, .int .i64 ss] 34)).cell? ⟨w.heap.size + 2, 0, none⟩ = some (.string tg) := C_2.out.cell 0
    have c1 : (w1.alloc (.cells #[.int .i64 st, .int .i64 ss] 34)).cell? ⟨w.heap.size + 2, 1, none⟩ = some (.int .i64 1) := C_2.out.cell 1
    have c2 : (w1.alloc (.cells #[.int .i64 st, .int .i64 ss] 34)).cell? ⟨w.heap.size + 2, 2, none⟩ = some (.string mb) := C_2.out.cell 2
    have c3 : (w1.alloc (.cells #[.int .i64 st, .int .i64 ss] 34)).cell? ⟨w.heap.size + 2, 3, none⟩ = some (.slice A n cap) := C_2.out.cell 3
    have c4 : (w1.alloc (.cells #[.int .i64 st, .int .i64 ss] 34)).cell? ⟨w.heap.size + 2, 4, none⟩ = some (.int .i64 items) := C_2.out.cell 4
    have c5 : (w1.alloc (.cells #[.int .i64 st, .int .i64 ss] 34)).cell? ⟨w.heap.size + 2, 5, none⟩ = some (.int .i64 mode) := C_2.out.cell 5
    have c6 : (w1.alloc (.cells #[.int .i64 st, .int .i64 ss] 34)).cell? ⟨w.heap.size + 2, 6, none⟩ = some (.bool sil) := C_2.out.cell 6
    have c7 : (w1.alloc (.cells #[.int .i64 st, .int .i64 ss] 34)).cell? ⟨w.heap.size + 2, 7, none⟩ = some (.int .u8 fl) := C_2.out.cell 7
    have c8 : (w1.alloc (.cells #[.int .i64 st, .int .i64 ss] 34)).cell? ⟨w.heap.size + 2, 8, none⟩ = some (.slice D nd cd) := C_2.out.cell 8
    go_wp2_with fail
    refine (HF.out _).mono ?_
    rintro e w2 ⟨rfl, hb2⟩
    have B_3 := Lib.hid (B_2.out.trans (hb2.mono B_2.out.size))
    have X_3 := Lib.hid (X_2.out.below hb2 X_2.out.lt)
    have S_3 := Lib.hid (S_2.out.below hb2 S_2.out.lt)
    have C_3 := Lib.hid (C_2.out.below hb2 C_2.out.lt)
    have R_3 := Lib.hid ((R_2.out.below hb2 (Nat.le_refl _)).mono hb2.size)
    have Y_3 := Lib.hid (Y_2.out.below hb2 Y_2.out.lt)
    clear B_2 X_2 S_2 C_2 R_2 Y_2 hb2 c0 c1 c2 c3 c4 c5 c6 c7 c8
    have c1 : w2.cell? ⟨w.heap.size + 2, 1, none⟩ = some (.int .i64 1) := C_3.out.cell 1
    have c4 : w2.cell? ⟨w.heap.size + 2, 4, none⟩ = some (.int .i64 items) := C_3.out.cell 4
    have y1 : w2.cell? ⟨w1.heap.size, 1, none⟩ = some (.int .i64 ss) := Y_3.out.cell 1
    go_wp2_with fail
    refine (HA.out _).mono ?_
    rintro e wz ⟨rfl, hbz⟩
    have B_4 := Lib.hid (B_3.out.trans (hbz.mono B_3.out.size))
    have X_4 := Lib.hid (X_3.out.below hbz X_3.out.lt)
    have S_4 := Lib.hid (S_3.out.below hbz S_3.out.lt)
    have C_4 := Lib.hid (C_3.out.below hbz C_3.out.lt)
    have R_4 := Lib.hid ((R_3.out.below hbz (Nat.le_refl _)).mono hbz.size)
    have Y_4 := Lib.hid (Y_3.out.below hbz Y_3.out.lt)
    clear B_3 X_3 S_3 C_3 R_3 Y_3 hbz
    go_wp2_with fail
    go_ret
    exact ⟨rfl, B_4.out⟩

set_option maxRecDepth 100000 in
set_option maxHeartbeats 6400000 in
theorem own_ss1 (a b p q : Nat) (tg mb : ByteArray) (items mode : Int) (sil : Bool) (fl : Int) (A D : Option Addr) (n cap nd cd : Nat) (l : List RB) (w : World) (ha : a < 256) (hb : b < 256) (hp : p < 256) (hq : q < 256) (hR : RgL w w.heap.size (.slice A n cap) (l.map RB.rng)) (hmk : marksB items = false) (hsx : lSs b < 2) :
    Calls Tryz.prog 4 #[.agg #[.int .u8 a, .int .u8 b], .agg #[.int .u8 p, .int .u8 q], .agg #[.string tg, .int .i64 1, .string mb, .slice A n cap, .int .i64 items, .int .i64 mode, .bool sil, .int .u8 fl, .slice D nd cd]] w fun e w' => e = .returned (.bool true) ∧ Below w.heap.size w w' := by
  have hRn : n = l.length := by
    obtain ⟨A', c', he, -⟩ := hR
    injection he with h1 h2 h3
    rw [h2, List.length_map]
  have hb0 : Below w.heap.size w (w.alloc (.cells #[.int .u8 a, .int .u8 b] 22)) := (Below.refl _ w).alloc (Nat.le_refl _) _
  have hb1 := hb0.alloc hb0.size (.cells #[.int .u8 p, .int .u8 q] 22)
  have hb2 := hb1.alloc hb1.size (.cells #[.string tg, .int .i64 1, .string mb, .slice A n cap, .int .i64 items, .int .i64 mode, .bool sil, .int .u8 fl, .slice D nd cd] 30)
  have kx := ((Blk.made w 22 #[.int .u8 a, .int .u8 b]).past (.cells #[.int .u8 p, .int .u8 q] 22)).past (.cells #[.string tg, .int .i64 1, .string mb, .slice A n cap, .int .i64 items, .int .i64 mode, .bool sil, .int .u8 fl, .slice D nd cd] 30)
  have ks := (Blk.made (w.alloc (.cells #[.int .u8 a, .int .u8 b] 22)) 22 #[.int .u8 p, .int .u8 q]).past (.cells #[.string tg, .int .i64 1, .string mb, .slice A n cap, .int .i64 items, .int .i64 mode, .bool sil, .int .u8 fl, .slice D nd cd] 30)
  have kc := Blk.made ((w.alloc (.cells #[.int .u8 a, .int .u8 b] 22)).alloc (.cells #[.int .u8 p, .int .u8 q] 22)) 30 #[.string tg, .int .i64 1, .string mb, .slice A n cap, .int .i64 items, .int .i64 mode, .bool sil, .int .u8 fl, .slice D nd cd]
  rw [World.size_alloc] at ks
  rw [World.size_alloc, World.size_alloc] at kc
  have hlay := layout_any a b ha hb
  obtain ⟨st, hst⟩ : ∃ st, lSt a = st := ⟨_, rfl⟩
  obtain ⟨ss, hss⟩ : ∃ ss, lSs b = ss := ⟨_, rfl⟩
  have hs1 : 0 < st ∧ st ≤ 16 := hst ▸ lSt_pos a
  have hs2 : ss ≤ 16 := hss ▸ lSs_le b
  rw [hst, hss] at hlay
  have HY := Lib.hid hlay
  have HA := Lib.hid (fun W => alive_any W)
  have HF := Lib.hid (fun W => fewc_any tg mb 1 items mode sil fl A D n cap nd cd W)
  obtain ⟨f, hf⟩ : ∃ f, fewC tg mb n nd = f := ⟨_, rfl⟩
  have hfl : f = true → mb.size ≤ 300 ∧ n ≤ 60 := fun h => by
    rw [h] at hf
    unfold fewC at hf
    simp only [Bool.and_eq_true, decide_eq_true_eq] at hf
    exact ⟨hf.2.1, hf.2.2.1⟩
  rw [hf] at HF
  clear hf hlay
  have B_0 := Lib.hid hb2
  have X_0 := Lib.hid kx
  have S_0 := Lib.hid ks
  have C_0 := Lib.hid kc
  have R_0 := Lib.hid ((hR.below hb2 (Nat.le_refl _)).mono hb2.size)
  have HP := Lib.hid (And.intro hRn hfl)
  clear hb0 hb1 hb2 kx ks kc hR hRn hfl
  have hm1 : (bits BinOp.and IntKind.i64 items 16 != 0) = false := hmk
  have hm2 : bits BinOp.and IntKind.i64 items 16 = 0 := by simpa using hm1
  have hm3 : (bits BinOp.and IntKind.i64 items 16 == 0) = true := by simpa using hm2
  rw [hss] at hsx
  have hsI : (ss : Int) < 2 := by omega
  have hsd : decide ((ss : Int) < 2) = true := decide_eq_true hsI
  clear hmk hsx
  cases f
  · go_enter Tryz.func4, Tryz.ntmps4
    go_wp2_with fail
    refine (HY.out _).mono ?_
    rintro e w1 ⟨rfl, hb1⟩
    have B_1 := Lib.hid (B_0.out.trans (hb1.mono B_0.out.size))
    have X_1 := Lib.hid (X_0.out.below hb1 X_0.out.lt)
    have S_1 := Lib.hid (S_0.out.below hb1 S_0.out.lt)
    have C_1 := Lib.hid (C_0.out.below hb1 C_0.out.lt)
    have R_1 := Lib.hid ((R_0.out.below hb1 (Nat.le_refl _)).mono hb1.size)
    clear B_0 X_0 S_0 C_0 R_0 hb1
    have hbl : Below w1.heap.size w1 (w1.alloc (.cells #[.int .i64 st, .int .i64 ss] 34)) := (Below.refl _ _).alloc (Nat.le_refl _) _
    have B_2 := Lib.hid (B_1.out.trans (hbl.mono B_1.out.size))
    have X_2 := Lib.hid (X_1.out.below hbl X_1.out.lt)
    have S_2 := Lib.hid (S_1.out.below hbl S_1.out.lt)
    have C_2 := Lib.hid (C_1.out.below hbl C_1.out.lt)
    have R_2 := Lib.hid ((R_1.out.below hbl (Nat.le_refl _)).mono hbl.size)
    have Y_2 := Lib.hid (Blk.made w1 34 #[.int .i64 st, .int .i64 ss])
    clear B_1 X_1 S_1 C_1 R_1 hbl
    have c0 : (w1.alloc (.cells #[.int .i64 st, .int .i64 ss] 34)).cell? ⟨w.heap.size + 2, 0, none⟩ = some (.string tg) := C_2.out.cell 0
    have c1 : (w1.alloc (.cells #[.int .i64 st, .int .i64 ss] 34)).cell? ⟨w.heap.size + 2, 1, none⟩ = some (.int .i64 1) := C_2.out.cell 1
    have c2 : (w1.alloc (.cells #[.int .i64 st, .int .i64 ss] 34)).cell? ⟨w.heap.size + 2, 2, none⟩ = some (.string mb) := C_2.out.cell 2
    have c3 : (w1.alloc (.cells #[.int .i64 st, .int .i64 ss] 34)).cell? ⟨w.heap.size + 2, 3, none⟩ = some (.slice A n cap) := C_2.out.cell 3
    have c4 : (w1.alloc (.cells #[.int .i64 st, .int .i64 ss] 34)).cell? ⟨w.heap.size + 2, 4, none⟩ = some (.int .i64 items) := C_2.out.cell 4
    have c5 : (w1.alloc (.cells #[.int .i64 st, .int .i64 ss] 34)).cell? ⟨w.heap.size + 2, 5, none⟩ = some (.int .i64 mode) := C_2.out.cell 5
    have c6 : (w1.alloc (.cells #[.int .i64 st, .int .i64 ss] 34)).cell? ⟨w.heap.size + 2, 6, none⟩ = some (.bool sil) := C_2.out.cell 6
    have c7 : (w1.alloc (.cells #[.int .i64 st, .int .i64 ss] 34)).cell? ⟨w.heap.size + 2, 7, none⟩ = some (.int .u8 fl) := C_2.out.cell 7
    have c8 : (w1.alloc (.cells #[.int .i64 st, .int .i64 ss] 34)).cell? ⟨w.heap.size + 2, 8, none⟩ = some (.slice D nd cd) := C_2.out.cell 8
    go_wp2_with fail
    refine (HF.out _).mono ?_
    rintro e w2 ⟨rfl, hb2⟩
    have B_3 := Lib.hid (B_2.out.trans (hb2.mono B_2.out.size))
    have X_3 := Lib.hid (X_2.out.below hb2 X_2.out.lt)
    have S_3 := Lib.hid (S_2.out.below hb2 S_2.out.lt)
    have C_3 := Lib.hid (C_2.out.below hb2 C_2.out.lt)
    have R_3 := Lib.hid ((R_2.out.below hb2 (Nat.le_refl _)).mono hb2.size)
    have Y_3 := Lib.hid (Y_2.out.below hb2 Y_2.out.lt)
    clear B_2 X_2 S_2 C_2 R_2 Y_2 hb2 c0 c1 c2 c3 c4 c5 c6 c7 c8
    have c1 : w2.cell? ⟨w.heap.size + 2, 1, none⟩ = some (.int .i64 1) := C_3.out.cell 1
    have c4 : w2.cell? ⟨w.heap.size + 2, 4, none⟩ = some (.int .i64 items) := C_3.out.cell 4
    have y1 : w2.cell? ⟨w1.heap.size, 1, none⟩ = some (.int .i64 ss) := Y_3.out.cell 1
    go_wp2_with fail
    refine (HA.out _).mono ?_
    rintro e wz ⟨rfl, hbz⟩
    have B_4 := Lib.hid (B_3.out.trans (hbz.mono B_3.out.size))
    have X_4 := Lib.hid (X_3.out.below hbz X_3.out.lt)
    have S_4 := Lib.hid (S_3.out.below hbz S_3.out.lt)
    have C_4 := Lib.hid (C_3.out.below hbz C_3.out.lt)
    have R_4 := Lib.hid ((R_3.out.below hbz (Nat.le_refl _)).mono hbz.size)
    have Y_4 := Lib.hid (Y_3.out.below hbz Y_3.out.lt)
    clear B_3 X_3 S_3 C_3 R_3 Y_3 hbz
    go_wp2_with fail
    go_ret
    exact ⟨rfl, B_4.out⟩
  · go_enter Tryz.func4, Tryz.ntmps4
    go_wp2_with fail
    refine (HY.out _).mono ?_
    rintro e w1 ⟨rfl, hb1⟩
    have B_1 := Lib.hid (B_0.out.trans (hb1.mono B_0.out.size))
    have X_1 := Lib.hid (X_0.out.below hb1 X_0.out.lt)
    have S_1 := Lib.hid (S_0.out.below hb1 S_0.out.lt)
    have C_1 := Lib.hid (C_0.out.below hb1 C_0.out.lt)
    have R_1 := Lib.hid ((R_0.out.below hb1 (Nat.le_refl _)).mono hb1.size)
    clear B_0 X_0 S_0 C_0 R_0 hb1
    have hbl : Below w1.heap.size w1 (w1.alloc (.cells #[.int .i64 st, .int .i64 ss] 34)) := (Below.refl _ _).alloc (Nat.le_refl _) _
    have B_2 := Lib.hid (B_1.out.trans (hbl.mono B_1.out.size))
    have X_2 := Lib.hid (X_1.out.below hbl X_1.out.lt)
    have S_2 := Lib.hid (S_1.out.below hbl S_1.out.lt)
    have C_2 := Lib.hid (C_1.out.below hbl C_1.out.lt)
    have R_2 := Lib.hid ((R_1.out.below hbl (Nat.le_refl _)).mono hbl.size)
    have Y_2 := Lib.hid (Blk.made w1 34 #[.int .i64 st, .int .i64 ss])
    clear B_1 X_1 S_1 C_1 R_1 hbl
    have c0 : (w1.alloc (.cells #[.int .i64 st, .int .i64 ss] 34)).cell? ⟨w.heap.size + 2, 0, none⟩ = some (.string tg) := C_2.out.cell 0
    have c1 : (w1.alloc (.cells #[.int .i64 st, .int .i64 ss] 34)).cell? ⟨w.heap.size + 2, 1, none⟩ = some (.int .i64 1) := C_2.out.cell 1
    have c2 : (w1.alloc (.cells #[.int .i64 st, .int .i64 ss] 34)).cell? ⟨w.heap.size + 2, 2, none⟩ = some (.string mb) := C_2.out.cell 2
    have c3 : (w1.alloc (.cells #[.int .i64 st, .int .i64 ss] 34)).cell? ⟨w.heap.size + 2, 3, none⟩ = some (.slice A n cap) := C_2.out.cell 3
    have c4 : (w1.alloc (.cells #[.int .i64 st, .int .i64 ss] 34)).cell? ⟨w.heap.size + 2, 4, none⟩ = some (.int .i64 items) := C_2.out.cell 4
    have c5 : (w1.alloc (.cells #[.int .i64 st, .int .i64 ss] 34)).cell? ⟨w.heap.size + 2, 5, none⟩ = some (.int .i64 mode) := C_2.out.cell 5
    have c6 : (w1.alloc (.cells #[.int .i64 st, .int .i64 ss] 34)).cell? ⟨w.heap.size + 2, 6, none⟩ = some (.bool sil) := C_2.out.cell 6
    have c7 : (w1.alloc (.cells #[.int .i64 st, .int .i64 ss] 34)).cell? ⟨w.heap.size + 2, 7, none⟩ = some (.int .u8 fl) := C_2.out.cell 7
    have c8 : (w1.alloc (.cells #[.int .i64 st, .int .i64 ss] 34)).cell? ⟨w.heap.size + 2, 8, none⟩ = some (.slice D nd cd) := C_2.out.cell 8
    go_wp2_with fail
    refine (HF.out _).mono ?_
    rintro e w2 ⟨rfl, hb2⟩
    have B_3 := Lib.hid (B_2.out.trans (hb2.mono B_2.out.size))
    have X_3 := Lib.hid (X_2.out.below hb2 X_2.out.lt)
    have S_3 := Lib.hid (S_2.out.below hb2 S_2.out.lt)
    have C_3 := Lib.hid (C_2.out.below hb2 C_2.out.lt)
    have R_3 := Lib.hid ((R_2.out.below hb2 (Nat.le_refl _)).mono hb2.size)
    have Y_3 := Lib.hid (Y_2.out.below hb2 Y_2.out.lt)
    clear B_2 X_2 S_2 C_2 R_2 Y_2 hb2 c0 c1 c2 c3 c4 c5 c6 c7 c8
    have c1 : w2.cell? ⟨w.heap.size + 2, 1, none⟩ = some (.int .i64 1) := C_3.out.cell 1
    have c4 : w2.cell? ⟨w.heap.size + 2, 4, none⟩ = some (.int .i64 items) := C_3.out.cell 4
    have y1 : w2.cell? ⟨w1.heap.size, 1, none⟩ = some (.int .i64 ss) := Y_3.out.cell 1
    go_wp2_with fail
    refine (HA.out _).mono ?_
    rintro e wz ⟨rfl, hbz⟩
    have B_4 := Lib.hid (B_3.out.trans (hbz.mono B_3.out.size))
    have X_4 := Lib.hid (X_3.out.below hbz X_3.out.lt)
    have S_4 := Lib.hid (S_3.out.below hbz S_3.out.lt)
    have C_4 := Lib.hid (C_3.out.below hbz C_3.out.lt)
    have R_4 := Lib.hid ((R_3.out.below hbz (Nat.le_refl _)).mono hbz.size)
    have Y_4 := Lib.hid (Y_3.out.below hbz Y_3.out.lt)
    clear B_3 X_3 S_3 C_3 R_3 Y_3 hbz
    go_wp2_with fail
    go_ret
    exact ⟨rfl, B_4.out⟩

set_option maxRecDepth 100000 in
set_option maxHeartbeats 6400000 in
theorem own_main1 (a b p q : Nat) (tg mb : ByteArray) (items mode : Int) (sil : Bool) (fl : Int) (A D : Option Addr) (n cap nd cd : Nat) (l : List RB) (w : World) (ha : a < 256) (hb : b < 256) (hp : p < 256) (hq : q < 256) (hR : RgL w w.heap.size (.slice A n cap) (l.map RB.rng)) (hfew : fewC tg mb n nd = true) (hmk : marksB items = false) (hsx : ¬ (lSs b < 2)) :
    Calls Tryz.prog 4 #[.agg #[.int .u8 a, .int .u8 b], .agg #[.int .u8 p, .int .u8 q], .agg #[.string tg, .int .i64 1, .string mb, .slice A n cap, .int .i64 items, .int .i64 mode, .bool sil, .int .u8 fl, .slice D nd cd]] w fun e w' => e = .returned (.bool true) ∧ Below w.heap.size w w' := by
  have hRn : n = l.length := by
    obtain ⟨A', c', he, -⟩ := hR
    injection he with h1 h2 h3
    rw [h2, List.length_map]
  have hb0 : Below w.heap.size w (w.alloc (.cells #[.int .u8 a, .int .u8 b] 22)) := (Below.refl _ w).alloc (Nat.le_refl _) _
  have hb1 := hb0.alloc hb0.size (.cells #[.int .u8 p, .int .u8 q] 22)
  have hb2 := hb1.alloc hb1.size (.cells #[.string tg, .int .i64 1, .string mb, .slice A n cap, .int .i64 items, .int .i64 mode, .bool sil, .int .u8 fl, .slice D nd cd] 30)
  have kx := ((Blk.made w 22 #[.int .u8 a, .int .u8 b]).past (.cells #[.int .u8 p, .int .u8 q] 22)).past (.cells #[.string tg, .int .i64 1, .string mb, .slice A n cap, .int .i64 items, .int .i64 mode, .bool sil, .int .u8 fl, .slice D nd cd] 30)
  have ks := (Blk.made (w.alloc (.cells #[.int .u8 a, .int .u8 b] 22)) 22 #[.int .u8 p, .int .u8 q]).past (.cells #[.string tg, .int .i64 1, .string mb, .slice A n cap, .int .i64 items, .int .i64 mode, .bool sil, .int .u8 fl, .slice D nd cd] 30)
  have kc := Blk.made ((w.alloc (.cells #[.int .u8 a, .int .u8 b] 22)).alloc (.cells #[.int .u8 p, .int .u8 q] 22)) 30 #[.string tg, .int .i64 1, .string mb, .slice A n cap, .int .i64 items, .int .i64 mode, .bool sil, .int .u8 fl, .slice D nd cd]
  rw [World.size_alloc] at ks
  rw [World.size_alloc, World.size_alloc] at kc
  have hlay := layout_any a b ha hb
  obtain ⟨st, hst⟩ : ∃ st, lSt a = st := ⟨_, rfl⟩
  obtain ⟨ss, hss⟩ : ∃ ss, lSs b = ss := ⟨_, rfl⟩
  have hs1 : 0 < st ∧ st ≤ 16 := hst ▸ lSt_pos a
  have hs2 : ss ≤ 16 := hss ▸ lSs_le b
  rw [hst, hss] at hlay
  have HY := Lib.hid hlay
  have HA := Lib.hid (fun W => alive_any W)
  have HF := Lib.hid (fun W => fewc_any tg mb 1 items mode sil fl A D n cap nd cd W)
  obtain ⟨f, hf⟩ : ∃ f, fewC tg mb n nd = f := ⟨_, rfl⟩
  have hfl : f = true → mb.size ≤ 300 ∧ n ≤ 60 := fun h => by
    rw [h] at hf
    unfold fewC at hf
    simp only [Bool.and_eq_true, decide_eq_true_eq] at hf
    exact ⟨hf.2.1, hf.2.2.1⟩
  rw [hf] at HF
  rw [hf] at hfew
  subst hfew
  clear hf hlay
  have B_0 := Lib.hid hb2
  have X_0 := Lib.hid kx
  have S_0 := Lib.hid ks
  have C_0 := Lib.hid kc
  have R_0 := Lib.hid ((hR.below hb2 (Nat.le_refl _)).mono hb2.size)
  have HP := Lib.hid (And.intro hRn hfl)
  clear hb0 hb1 hb2 kx ks kc hR hRn hfl
  have hm1 : (bits BinOp.and IntKind.i64 items 16 != 0) = false := hmk
  have hm2 : bits BinOp.and IntKind.i64 items 16 = 0 := by simpa using hm1
  have hm3 : (bits BinOp.and IntKind.i64 items 16 == 0) = true := by simpa using hm2
  rw [hss] at hsx
  have hsI : ¬ ((ss : Int) < 2) := by omega
  have hsd : decide ((ss : Int) < 2) = false := decide_eq_false hsI
  obtain ⟨pa, hpa⟩ : ∃ pa, p % ss = pa := ⟨_, rfl⟩
  obtain ⟨pb, hpb⟩ : ∃ pb, q % ss = pb := ⟨_, rfl⟩
  have hpal : pa < ss := by rw [← hpa]; exact Nat.mod_lt _ (by omega)
  have hpbl : pb < ss := by rw [← hpb]; exact Nat.mod_lt _ (by omega)
  have ht1 : (p : Int).tmod (ss : Int) = (pa : Int) := by rw [Int.tmod_eq_emod_of_nonneg (by omega), ← hpa]; exact (Int.natCast_emod p ss).symm
  have ht2 : (q : Int).tmod (ss : Int) = (pb : Int) := by rw [Int.tmod_eq_emod_of_nonneg (by omega), ← hpb]; exact (Int.natCast_emod q ss).symm
  have hw1 : IntKind.i64.wrap (p : Int) = p := by simp [IntKind.wrap, IntKind.bits, IntKind.signed]; omega
  have hw2 : IntKind.i64.wrap (q : Int) = q := by simp [IntKind.wrap, IntKind.bits, IntKind.signed]; omega
  have hw3 : IntKind.i64.wrap (pa : Int) = pa := by simp [IntKind.wrap, IntKind.bits, IntKind.signed]; omega
  have hw4 : IntKind.i64.wrap (pb : Int) = pb := by simp [IntKind.wrap, IntKind.bits, IntKind.signed]; omega
  have hzN : ¬ (ss = 0) := by omega
  have hz1 : ¬ ((ss : Int) = 0) := by omega
  have hz2 : ((ss : Int) == 0) = false := by simpa using hz1
  have hz3 : ¬ ((ss : Int) = -1) := by omega
  have HFr := Lib.hid (fun (sid : Nat) vb W (hV : VwR W W.heap.size (some ⟨vb, 0, none⟩) [1, 2, 3]) (hR : RgL W W.heap.size (.slice A n cap) (l.map RB.rng)) => planfor_any st ss (by omega) (by omega) hs1.1 sid (some ⟨vb, 0, none⟩) true rfl [1, 2, 3] l tg mb 1 items mode sil fl A D n cap nd cd (HP.out.2 rfl).1 W hV hR (by decide) (by have := HP.out.1; have := (HP.out.2 rfl).2; omega) (by decide))
  have HTl : Hid (∀ sid : Nat, (forL st ss sid (some [1, 2, 3]) 1 (inboxB mb) (l.map RB.rng) false).length ≤ 1000) := Lib.hid (fun sid => forL_len (by omega) (by omega) (fun vl h => by injection h with h; rw [← h]; decide))
  have HL := Lib.hid (fun (hne : pa ≠ pb) => own_law hs1.1 hpal hpbl hne (show ((1 : Int) = 1 ∨ (1 : Int) = 7) by decide) [1, 2, 3] (inboxB mb) (l.map RB.rng))
  rw [hmk] at HFr
  simp only [if_true] at HFr
  have HV := Lib.hid (fun W => v123_any W)
  clear hmk hsx hpa hpb ha hb hst hss
  go_enter Tryz.func4, Tryz.ntmps4
  go_wp2_with fail
  refine (HY.out _).mono ?_
  rintro e w1 ⟨rfl, hb1⟩
  have B_1 := Lib.hid (B_0.out.trans (hb1.mono B_0.out.size))
  have X_1 := Lib.hid (X_0.out.below hb1 X_0.out.lt)
  have S_1 := Lib.hid (S_0.out.below hb1 S_0.out.lt)
  have C_1 := Lib.hid (C_0.out.below hb1 C_0.out.lt)
  have R_1 := Lib.hid ((R_0.out.below hb1 (Nat.le_refl _)).mono hb1.size)
  clear B_0 X_0 S_0 C_0 R_0 hb1
  have hbl : Below w1.heap.size w1 (w1.alloc (.cells #[.int .i64 st, .int .i64 ss] 34)) := (Below.refl _ _).alloc (Nat.le_refl _) _
  have B_2 := Lib.hid (B_1.out.trans (hbl.mono B_1.out.size))
  have X_2 := Lib.hid (X_1.out.below hbl X_1.out.lt)
  have S_2 := Lib.hid (S_1.out.below hbl S_1.out.lt)
  have C_2 := Lib.hid (C_1.out.below hbl C_1.out.lt)
  have R_2 := Lib.hid ((R_1.out.below hbl (Nat.le_refl _)).mono hbl.size)
  have Y_2 := Lib.hid (Blk.made w1 34 #[.int .i64 st, .int .i64 ss])
  clear B_1 X_1 S_1 C_1 R_1 hbl
  have c0 : (w1.alloc (.cells #[.int .i64 st, .int .i64 ss] 34)).cell? ⟨w.heap.size + 2, 0, none⟩ = some (.string tg) := C_2.out.cell 0
  have c1 : (w1.alloc (.cells #[.int .i64 st, .int .i64 ss] 34)).cell? ⟨w.heap.size + 2, 1, none⟩ = some (.int .i64 1) := C_2.out.cell 1
  have c2 : (w1.alloc (.cells #[.int .i64 st, .int .i64 ss] 34)).cell? ⟨w.heap.size + 2, 2, none⟩ = some (.string mb) := C_2.out.cell 2
  have c3 : (w1.alloc (.cells #[.int .i64 st, .int .i64 ss] 34)).cell? ⟨w.heap.size + 2, 3, none⟩ = some (.slice A n cap) := C_2.out.cell 3
  have c4 : (w1.alloc (.cells #[.int .i64 st, .int .i64 ss] 34)).cell? ⟨w.heap.size + 2, 4, none⟩ = some (.int .i64 items) := C_2.out.cell 4
  have c5 : (w1.alloc (.cells #[.int .i64 st, .int .i64 ss] 34)).cell? ⟨w.heap.size + 2, 5, none⟩ = some (.int .i64 mode) := C_2.out.cell 5
  have c6 : (w1.alloc (.cells #[.int .i64 st, .int .i64 ss] 34)).cell? ⟨w.heap.size + 2, 6, none⟩ = some (.bool sil) := C_2.out.cell 6
  have c7 : (w1.alloc (.cells #[.int .i64 st, .int .i64 ss] 34)).cell? ⟨w.heap.size + 2, 7, none⟩ = some (.int .u8 fl) := C_2.out.cell 7
  have c8 : (w1.alloc (.cells #[.int .i64 st, .int .i64 ss] 34)).cell? ⟨w.heap.size + 2, 8, none⟩ = some (.slice D nd cd) := C_2.out.cell 8
  go_wp2_with fail
  refine (HF.out _).mono ?_
  rintro e w2 ⟨rfl, hb2⟩
  have B_3 := Lib.hid (B_2.out.trans (hb2.mono B_2.out.size))
  have X_3 := Lib.hid (X_2.out.below hb2 X_2.out.lt)
  have S_3 := Lib.hid (S_2.out.below hb2 S_2.out.lt)
  have C_3 := Lib.hid (C_2.out.below hb2 C_2.out.lt)
  have R_3 := Lib.hid ((R_2.out.below hb2 (Nat.le_refl _)).mono hb2.size)
  have Y_3 := Lib.hid (Y_2.out.below hb2 Y_2.out.lt)
  clear B_2 X_2 S_2 C_2 R_2 Y_2 hb2 c0 c1 c2 c3 c4 c5 c6 c7 c8
  have c1 : w2.cell? ⟨w.heap.size + 2, 1, none⟩ = some (.int .i64 1) := C_3.out.cell 1
  have c4 : w2.cell? ⟨w.heap.size + 2, 4, none⟩ = some (.int .i64 items) := C_3.out.cell 4
  have y1 : w2.cell? ⟨w1.heap.size, 1, none⟩ = some (.int .i64 ss) := Y_3.out.cell 1
  go_upto_region 4 with fail
  clear c1 c4 y1
  have hbw : Below w2.heap.size w2 w2.drew := Below.drew (Below.refl _ _)
  have B_4 := Lib.hid (B_3.out.trans (hbw.mono B_3.out.size))
  have X_4 := Lib.hid (X_3.out.below hbw X_3.out.lt)
  have S_4 := Lib.hid (S_3.out.below hbw S_3.out.lt)
  have C_4 := Lib.hid (C_3.out.below hbw C_3.out.lt)
  have R_4 := Lib.hid ((R_3.out.below hbw (Nat.le_refl _)).mono hbw.size)
  have Y_4 := Lib.hid (Y_3.out.below hbw Y_3.out.lt)
  clear B_3 X_3 S_3 C_3 R_3 Y_3 hbw
  refine region_anyC (fun W => Blk W w.heap.size 22 #[.int .u8 a, .int .u8 b] ∧ Blk W (w.heap.size + 1) 22 #[.int .u8 p, .int .u8 q] ∧ Blk W (w.heap.size + 1 + 1) 30 #[.string tg, .int .i64 1, .string mb, .slice A n cap, .int .i64 items, .int .i64 mode, .bool sil, .int .u8 fl, .slice D nd cd] ∧ Blk W w1.heap.size 34 #[.int .i64 st, .int .i64 ss]) (by kernel_rfl) ?_
  refine anyC_take (i := 0) (v := ?_) rfl (by kernel_rfl) (by kernel_rfl) (by kernel_rfl) (fun _ _ _ h => h) (And.intro X_4.out (And.intro S_4.out (And.intro C_4.out Y_4.out))) (Or.inl ⟨by rfl, ?_⟩) ?_
  rotate_left
  · intro W hW
    go_simp
    try with_reducible rfl
  try simp only [List.getElem_toArray, List.getElem_cons_zero, List.getElem_cons_succ, Act.put, List.setIfInBounds_toArray, List.set_cons_zero, List.set_cons_succ]
  refine anyC_take (i := 1) (v := ?_) rfl (by kernel_rfl) (by kernel_rfl) (by kernel_rfl) (fun _ _ _ h => h) (And.intro X_4.out (And.intro S_4.out (And.intro C_4.out Y_4.out))) (Or.inl ⟨by rfl, ?_⟩) ?_
  rotate_left
  · intro W hW
    have s0 : W.cell? ⟨w.heap.size + 1, 0, none⟩ = some (.int .u8 p) := hW.2.1.cell 0
    go_simp
    try with_reducible rfl
  try simp only [List.getElem_toArray, List.getElem_cons_zero, List.getElem_cons_succ, Act.put, List.setIfInBounds_toArray, List.set_cons_zero, List.set_cons_succ]
  refine anyC_take (i := 2) (v := ?_) rfl (by kernel_rfl) (by kernel_rfl) (by kernel_rfl) (fun _ _ _ h => h) (And.intro X_4.out (And.intro S_4.out (And.intro C_4.out Y_4.out))) (Or.inl ⟨by rfl, ?_⟩) ?_
  rotate_left
  · intro W hW
    go_simp
    try with_reducible rfl
  try simp only [List.getElem_toArray, List.getElem_cons_zero, List.getElem_cons_succ, Act.put, List.setIfInBounds_toArray, List.set_cons_zero, List.set_cons_succ]
  refine anyC_take (i := 3) (v := ?_) rfl (by kernel_rfl) (by kernel_rfl) (by kernel_rfl) (fun _ _ _ h => h) (And.intro X_4.out (And.intro S_4.out (And.intro C_4.out Y_4.out))) (Or.inl ⟨by rfl, ?_⟩) ?_
  rotate_left
  · intro W hW
    go_simp
    try with_reducible rfl
  try simp only [List.getElem_toArray, List.getElem_cons_zero, List.getElem_cons_succ, Act.put, List.setIfInBounds_toArray, List.set_cons_zero, List.set_cons_succ]
  refine anyC_take (i := 4) (v := ?_) rfl (by kernel_rfl) (by kernel_rfl) (by kernel_rfl) (fun _ _ _ h => h) (And.intro X_4.out (And.intro S_4.out (And.intro C_4.out Y_4.out))) (Or.inl ⟨by rfl, ?_⟩) ?_
  rotate_left
  · intro W hW
    have y1 : W.cell? ⟨w1.heap.size, 1, none⟩ = some (.int .i64 ss) := hW.2.2.2.cell 1
    go_simp
    try with_reducible rfl
  try simp only [List.getElem_toArray, List.getElem_cons_zero, List.getElem_cons_succ, Act.put, List.setIfInBounds_toArray, List.set_cons_zero, List.set_cons_succ]
  refine anyC_take (i := 5) (v := ?_) rfl (by kernel_rfl) (by kernel_rfl) (by kernel_rfl) (fun _ _ _ h => h) (And.intro X_4.out (And.intro S_4.out (And.intro C_4.out Y_4.out))) (Or.inl ⟨by rfl, ?_⟩) ?_
  rotate_left
  · intro W hW
    go_simp
    try with_reducible rfl
  try simp only [List.getElem_toArray, List.getElem_cons_zero, List.getElem_cons_succ, Act.put, List.setIfInBounds_toArray, List.set_cons_zero, List.set_cons_succ]
  refine anyC_take (i := 6) (v := ?_) rfl (by kernel_rfl) (by kernel_rfl) (by kernel_rfl) (fun _ _ _ h => h) (And.intro X_4.out (And.intro S_4.out (And.intro C_4.out Y_4.out))) (Or.inl ⟨by rfl, ?_⟩) ?_
  rotate_left
  · intro W hW
    go_simp
    try with_reducible rfl
  try simp only [List.getElem_toArray, List.getElem_cons_zero, List.getElem_cons_succ, Act.put, List.setIfInBounds_toArray, List.set_cons_zero, List.set_cons_succ]
  refine anyC_take (i := 7) (v := ?_) rfl (by kernel_rfl) (by kernel_rfl) (by kernel_rfl) (fun _ _ _ h => h) (And.intro X_4.out (And.intro S_4.out (And.intro C_4.out Y_4.out))) (Or.inl ⟨by rfl, ?_⟩) ?_
  rotate_left
  · intro W hW
    have s1 : W.cell? ⟨w.heap.size + 1, 1, none⟩ = some (.int .u8 q) := hW.2.1.cell 1
    go_simp
    try with_reducible rfl
  try simp only [List.getElem_toArray, List.getElem_cons_zero, List.getElem_cons_succ, Act.put, List.setIfInBounds_toArray, List.set_cons_zero, List.set_cons_succ]
  refine anyC_take (i := 8) (v := ?_) rfl (by kernel_rfl) (by kernel_rfl) (by kernel_rfl) (fun _ _ _ h => h) (And.intro X_4.out (And.intro S_4.out (And.intro C_4.out Y_4.out))) (Or.inl ⟨by rfl, ?_⟩) ?_
  rotate_left
  · intro W hW
    go_simp
    try with_reducible rfl
  try simp only [List.getElem_toArray, List.getElem_cons_zero, List.getElem_cons_succ, Act.put, List.setIfInBounds_toArray, List.set_cons_zero, List.set_cons_succ]
  refine anyC_take (i := 9) (v := ?_) rfl (by kernel_rfl) (by kernel_rfl) (by kernel_rfl) (fun _ _ _ h => h) (And.intro X_4.out (And.intro S_4.out (And.intro C_4.out Y_4.out))) (Or.inl ⟨by rfl, ?_⟩) ?_
  rotate_left
  · intro W hW
    go_simp
    try with_reducible rfl
  try simp only [List.getElem_toArray, List.getElem_cons_zero, List.getElem_cons_succ, Act.put, List.setIfInBounds_toArray, List.set_cons_zero, List.set_cons_succ]
  refine anyC_take (i := 10) (v := ?_) rfl (by kernel_rfl) (by kernel_rfl) (by kernel_rfl) (fun _ _ _ h => h) (And.intro X_4.out (And.intro S_4.out (And.intro C_4.out Y_4.out))) (Or.inl ⟨by rfl, ?_⟩) ?_
  rotate_left
  · intro W hW
    have y1 : W.cell? ⟨w1.heap.size, 1, none⟩ = some (.int .i64 ss) := hW.2.2.2.cell 1
    go_simp
    try with_reducible rfl
  try simp only [List.getElem_toArray, List.getElem_cons_zero, List.getElem_cons_succ, Act.put, List.setIfInBounds_toArray, List.set_cons_zero, List.set_cons_succ]
  refine anyC_take (i := 11) (v := ?_) rfl (by kernel_rfl) (by kernel_rfl) (by kernel_rfl) (fun _ _ _ h => h) (And.intro X_4.out (And.intro S_4.out (And.intro C_4.out Y_4.out))) (Or.inl ⟨by rfl, ?_⟩) ?_
  rotate_left
  · intro W hW
    go_simp
    try with_reducible rfl
  try simp only [List.getElem_toArray, List.getElem_cons_zero, List.getElem_cons_succ, Act.put, List.setIfInBounds_toArray, List.set_cons_zero, List.set_cons_succ]
  refine anyC_take (i := 12) (v := ?_) rfl (by kernel_rfl) (by kernel_rfl) (by kernel_rfl) (fun _ _ _ h => h) (And.intro X_4.out (And.intro S_4.out (And.intro C_4.out Y_4.out))) (Or.inl ⟨by rfl, ?_⟩) ?_
  rotate_left
  · intro W hW
    go_simp
    try with_reducible rfl
  try simp only [List.getElem_toArray, List.getElem_cons_zero, List.getElem_cons_succ, Act.put, List.setIfInBounds_toArray, List.set_cons_zero, List.set_cons_succ]
  refine anyC_take (i := 13) (v := ?_) rfl (by kernel_rfl) (by kernel_rfl) (by kernel_rfl) (fun _ _ _ h => h) (And.intro X_4.out (And.intro S_4.out (And.intro C_4.out Y_4.out))) (Or.inl ⟨by rfl, ?_⟩) ?_
  rotate_left
  · intro W hW
    go_simp
    try with_reducible rfl
  try simp only [List.getElem_toArray, List.getElem_cons_zero, List.getElem_cons_succ, Act.put, List.setIfInBounds_toArray, List.set_cons_zero, List.set_cons_succ]
  refine anyC_done (by kernel_rfl) ?_ _
  by_cases hne : pa = pb
  · have hneI : (pa : Int) = (pb : Int) := by omega
    subst hne
    go_wp2_with fail
    refine (HA.out _).mono ?_
    rintro e wz ⟨rfl, hbz⟩
    have B_5 := Lib.hid (B_4.out.trans (hbz.mono B_4.out.size))
    have X_5 := Lib.hid (X_4.out.below hbz X_4.out.lt)
    have S_5 := Lib.hid (S_4.out.below hbz S_4.out.lt)
    have C_5 := Lib.hid (C_4.out.below hbz C_4.out.lt)
    have R_5 := Lib.hid ((R_4.out.below hbz (Nat.le_refl _)).mono hbz.size)
    have Y_5 := Lib.hid (Y_4.out.below hbz Y_4.out.lt)
    clear B_4 X_4 S_4 C_4 R_4 Y_4 hbz
    go_wp2_with fail
    go_ret
    exact ⟨rfl, B_5.out⟩
  · have hneI : ¬ ((pa : Int) = (pb : Int)) := by omega
    have hneb : ((pa : Int) == (pb : Int)) = false := by simpa using hneI
    have HL1 := Lib.hid (HL.out hne)
    obtain ⟨T1, hT1⟩ : ∃ T1, forL st ss pa (some [1, 2, 3]) 1 (inboxB mb) (l.map RB.rng) false = T1 := ⟨_, rfl⟩
    obtain ⟨T2, hT2⟩ : ∃ T2, forL st ss pb (some [1, 2, 3]) 1 (inboxB mb) (l.map RB.rng) false = T2 := ⟨_, rfl⟩
    have HF1 := Lib.hid (HFr.out pa)
    have HF2 := Lib.hid (HFr.out pb)
    have HT1 := Lib.hid (HTl.out pa)
    have HT2 := Lib.hid (HTl.out pb)
    rw [hT1] at HF1 HT1
    rw [hT2] at HF2 HT2
    rw [hT1, hT2] at HL1
    clear hT1 hT2 HL HFr HTl hne
    go_wp2_with fail
    refine (HV.out w2.drew).mono ?_
    rintro e w3 ⟨vb, rfl, hv, hb3⟩
    have B_5 := Lib.hid (B_4.out.trans (hb3.mono B_4.out.size))
    have X_5 := Lib.hid (X_4.out.below hb3 X_4.out.lt)
    have S_5 := Lib.hid (S_4.out.below hb3 S_4.out.lt)
    have C_5 := Lib.hid (C_4.out.below hb3 C_4.out.lt)
    have R_5 := Lib.hid ((R_4.out.below hb3 (Nat.le_refl _)).mono hb3.size)
    have Y_5 := Lib.hid (Y_4.out.below hb3 Y_4.out.lt)
    have V_5 := Lib.hid (hv)
    clear B_4 X_4 S_4 C_4 R_4 Y_4 hb3 hv
    go_upto_region 8 with fail
    have hbw : Below w3.heap.size w3 w3.drew := Below.drew (Below.refl _ _)
    have B_6 := Lib.hid (B_5.out.trans (hbw.mono B_5.out.size))
    have X_6 := Lib.hid (X_5.out.below hbw X_5.out.lt)
    have S_6 := Lib.hid (S_5.out.below hbw S_5.out.lt)
    have C_6 := Lib.hid (C_5.out.below hbw C_5.out.lt)
    have R_6 := Lib.hid ((R_5.out.below hbw (Nat.le_refl _)).mono hbw.size)
    have Y_6 := Lib.hid (Y_5.out.below hbw Y_5.out.lt)
    have V_6 := Lib.hid ((V_5.out.below hbw (Nat.le_refl _)).mono hbw.size)
    clear B_5 X_5 S_5 C_5 R_5 Y_5 V_5 hbw
    refine region_anyC (fun W => Blk W w.heap.size 22 #[.int .u8 a, .int .u8 b] ∧ Blk W (w.heap.size + 1) 22 #[.int .u8 p, .int .u8 q] ∧ Blk W (w.heap.size + 1 + 1) 30 #[.string tg, .int .i64 1, .string mb, .slice A n cap, .int .i64 items, .int .i64 mode, .bool sil, .int .u8 fl, .slice D nd cd] ∧ Blk W w1.heap.size 34 #[.int .i64 st, .int .i64 ss]) (by kernel_rfl) ?_
    refine anyC_take (i := 0) (v := ?_) rfl (by kernel_rfl) (by kernel_rfl) (by kernel_rfl) (fun _ _ _ h => h) (And.intro X_6.out (And.intro S_6.out (And.intro C_6.out Y_6.out))) (Or.inl ⟨by rfl, ?_⟩) ?_
    rotate_left
    · intro W hW
      have y0 : W.cell? ⟨w1.heap.size, 0, none⟩ = some (.int .i64 st) := hW.2.2.2.cell 0
      have y1 : W.cell? ⟨w1.heap.size, 1, none⟩ = some (.int .i64 ss) := hW.2.2.2.cell 1
      go_simp
      try with_reducible rfl
    try simp only [List.getElem_toArray, List.getElem_cons_zero, List.getElem_cons_succ, Act.put, List.setIfInBounds_toArray, List.set_cons_zero, List.set_cons_succ]
    refine anyC_take (i := 1) (v := ?_) rfl (by kernel_rfl) (by kernel_rfl) (by kernel_rfl) (fun _ _ _ h => h) (And.intro X_6.out (And.intro S_6.out (And.intro C_6.out Y_6.out))) (Or.inl ⟨by rfl, ?_⟩) ?_
    rotate_left
    · intro W hW
      go_simp
      try with_reducible rfl
    try simp only [List.getElem_toArray, List.getElem_cons_zero, List.getElem_cons_succ, Act.put, List.setIfInBounds_toArray, List.set_cons_zero, List.set_cons_succ]
    refine anyC_take (i := 2) (v := ?_) rfl (by kernel_rfl) (by kernel_rfl) (by kernel_rfl) (fun _ _ _ h => h) (And.intro X_6.out (And.intro S_6.out (And.intro C_6.out Y_6.out))) (Or.inl ⟨by rfl, ?_⟩) ?_
    rotate_left
    · intro W hW
      go_simp
      try with_reducible rfl
    try simp only [List.getElem_toArray, List.getElem_cons_zero, List.getElem_cons_succ, Act.put, List.setIfInBounds_toArray, List.set_cons_zero, List.set_cons_succ]
    refine anyC_take (i := 3) (v := ?_) rfl (by kernel_rfl) (by kernel_rfl) (by kernel_rfl) (fun _ _ _ h => h) (And.intro X_6.out (And.intro S_6.out (And.intro C_6.out Y_6.out))) (Or.inl ⟨by rfl, ?_⟩) ?_
    rotate_left
    · intro W hW
      have c0 : W.cell? ⟨w.heap.size + 1 + 1, 0, none⟩ = some (.string tg) := hW.2.2.1.cell 0
      have c1 : W.cell? ⟨w.heap.size + 1 + 1, 1, none⟩ = some (.int .i64 1) := hW.2.2.1.cell 1
      have c2 : W.cell? ⟨w.heap.size + 1 + 1, 2, none⟩ = some (.string mb) := hW.2.2.1.cell 2
      have c3 : W.cell? ⟨w.heap.size + 1 + 1, 3, none⟩ = some (.slice A n cap) := hW.2.2.1.cell 3
      have c4 : W.cell? ⟨w.heap.size + 1 + 1, 4, none⟩ = some (.int .i64 items) := hW.2.2.1.cell 4
      have c5 : W.cell? ⟨w.heap.size + 1 + 1, 5, none⟩ = some (.int .i64 mode) := hW.2.2.1.cell 5
      have c6 : W.cell? ⟨w.heap.size + 1 + 1, 6, none⟩ = some (.bool sil) := hW.2.2.1.cell 6
      have c7 : W.cell? ⟨w.heap.size + 1 + 1, 7, none⟩ = some (.int .u8 fl) := hW.2.2.1.cell 7
      have c8 : W.cell? ⟨w.heap.size + 1 + 1, 8, none⟩ = some (.slice D nd cd) := hW.2.2.1.cell 8
      go_simp
      try with_reducible rfl
    try simp only [List.getElem_toArray, List.getElem_cons_zero, List.getElem_cons_succ, Act.put, List.setIfInBounds_toArray, List.set_cons_zero, List.set_cons_succ]
    refine anyC_take (i := 5) (v := ?_) rfl (by kernel_rfl) (by kernel_rfl) (by kernel_rfl) (fun _ _ _ h => h) (And.intro X_6.out (And.intro S_6.out (And.intro C_6.out Y_6.out))) (Or.inl ⟨by rfl, ?_⟩) ?_
    rotate_left
    · intro W hW
      have y0 : W.cell? ⟨w1.heap.size, 0, none⟩ = some (.int .i64 st) := hW.2.2.2.cell 0
      have y1 : W.cell? ⟨w1.heap.size, 1, none⟩ = some (.int .i64 ss) := hW.2.2.2.cell 1
      go_simp
      try with_reducible rfl
    try simp only [List.getElem_toArray, List.getElem_cons_zero, List.getElem_cons_succ, Act.put, List.setIfInBounds_toArray, List.set_cons_zero, List.set_cons_succ]
    refine anyC_take (i := 6) (v := ?_) rfl (by kernel_rfl) (by kernel_rfl) (by kernel_rfl) (fun _ _ _ h => h) (And.intro X_6.out (And.intro S_6.out (And.intro C_6.out Y_6.out))) (Or.inl ⟨by rfl, ?_⟩) ?_
    rotate_left
    · intro W hW
      go_simp
      try with_reducible rfl
    try simp only [List.getElem_toArray, List.getElem_cons_zero, List.getElem_cons_succ, Act.put, List.setIfInBounds_toArray, List.set_cons_zero, List.set_cons_succ]
    refine anyC_take (i := 7) (v := ?_) rfl (by kernel_rfl) (by kernel_rfl) (by kernel_rfl) (fun _ _ _ h => h) (And.intro X_6.out (And.intro S_6.out (And.intro C_6.out Y_6.out))) (Or.inl ⟨by rfl, ?_⟩) ?_
    rotate_left
    · intro W hW
      go_simp
      try with_reducible rfl
    try simp only [List.getElem_toArray, List.getElem_cons_zero, List.getElem_cons_succ, Act.put, List.setIfInBounds_toArray, List.set_cons_zero, List.set_cons_succ]
    refine anyC_take (i := 8) (v := ?_) rfl (by kernel_rfl) (by kernel_rfl) (by kernel_rfl) (fun _ _ _ h => h) (And.intro X_6.out (And.intro S_6.out (And.intro C_6.out Y_6.out))) (Or.inl ⟨by rfl, ?_⟩) ?_
    rotate_left
    · intro W hW
      have c0 : W.cell? ⟨w.heap.size + 1 + 1, 0, none⟩ = some (.string tg) := hW.2.2.1.cell 0
      have c1 : W.cell? ⟨w.heap.size + 1 + 1, 1, none⟩ = some (.int .i64 1) := hW.2.2.1.cell 1
      have c2 : W.cell? ⟨w.heap.size + 1 + 1, 2, none⟩ = some (.string mb) := hW.2.2.1.cell 2
      have c3 : W.cell? ⟨w.heap.size + 1 + 1, 3, none⟩ = some (.slice A n cap) := hW.2.2.1.cell 3
      have c4 : W.cell? ⟨w.heap.size + 1 + 1, 4, none⟩ = some (.int .i64 items) := hW.2.2.1.cell 4
      have c5 : W.cell? ⟨w.heap.size + 1 + 1, 5, none⟩ = some (.int .i64 mode) := hW.2.2.1.cell 5
      have c6 : W.cell? ⟨w.heap.size + 1 + 1, 6, none⟩ = some (.bool sil) := hW.2.2.1.cell 6
      have c7 : W.cell? ⟨w.heap.size + 1 + 1, 7, none⟩ = some (.int .u8 fl) := hW.2.2.1.cell 7
      have c8 : W.cell? ⟨w.heap.size + 1 + 1, 8, none⟩ = some (.slice D nd cd) := hW.2.2.1.cell 8
      go_simp
      try with_reducible rfl
    try simp only [List.getElem_toArray, List.getElem_cons_zero, List.getElem_cons_succ, Act.put, List.setIfInBounds_toArray, List.set_cons_zero, List.set_cons_succ]
    refine anyC_one (i := 4) (by kernel_rfl) (fun K hK => ⟨_, rfl, by kernel_rfl, ?_⟩)
    go_simp
    refine (HF1.out vb _ V_6.out R_6.out).mono ?_
    rintro e w4 ⟨v4, rfl, hv4, hb4⟩
    have B_7 := Lib.hid (B_6.out.trans (hb4.mono B_6.out.size))
    have X_7 := Lib.hid (X_6.out.below hb4 X_6.out.lt)
    have S_7 := Lib.hid (S_6.out.below hb4 S_6.out.lt)
    have C_7 := Lib.hid (C_6.out.below hb4 C_6.out.lt)
    have R_7 := Lib.hid ((R_6.out.below hb4 (Nat.le_refl _)).mono hb4.size)
    have Y_7 := Lib.hid (Y_6.out.below hb4 Y_6.out.lt)
    have V_7 := Lib.hid ((V_6.out.below hb4 (Nat.le_refl _)).mono hb4.size)
    have G_7 := Lib.hid (lb_rd hv4)
    clear B_6 X_6 S_6 C_6 R_6 Y_6 V_6 hb4 hv4
    refine hK _ _ (And.intro X_7.out (And.intro S_7.out (And.intro C_7.out Y_7.out))) ?_
    clear hK K
    try simp only [List.getElem_toArray, List.getElem_cons_zero, List.getElem_cons_succ, Act.put, List.setIfInBounds_toArray, List.set_cons_zero, List.set_cons_succ]
    refine anyC_one (i := 9) (by kernel_rfl) (fun K hK => ⟨_, rfl, by kernel_rfl, ?_⟩)
    go_simp
    refine (HF2.out vb _ V_7.out R_7.out).mono ?_
    rintro e w5 ⟨v5, rfl, hv5, hb5⟩
    have B_8 := Lib.hid (B_7.out.trans (hb5.mono B_7.out.size))
    have X_8 := Lib.hid (X_7.out.below hb5 X_7.out.lt)
    have S_8 := Lib.hid (S_7.out.below hb5 S_7.out.lt)
    have C_8 := Lib.hid (C_7.out.below hb5 C_7.out.lt)
    have R_8 := Lib.hid ((R_7.out.below hb5 (Nat.le_refl _)).mono hb5.size)
    have Y_8 := Lib.hid (Y_7.out.below hb5 Y_7.out.lt)
    have V_8 := Lib.hid ((V_7.out.below hb5 (Nat.le_refl _)).mono hb5.size)
    have G_8 := Lib.hid ((G_7.out.below hb5 (Nat.le_refl _)).mono hb5.size)
    have Q_8 := Lib.hid (lb_rd hv5)
    clear B_7 X_7 S_7 C_7 R_7 Y_7 V_7 G_7 hb5 hv5
    refine hK _ _ (And.intro X_8.out (And.intro S_8.out (And.intro C_8.out Y_8.out))) ?_
    clear hK K
    try simp only [List.getElem_toArray, List.getElem_cons_zero, List.getElem_cons_succ, Act.put, List.setIfInBounds_toArray, List.set_cons_zero, List.set_cons_succ]
    refine anyC_take (i := 10) (v := ?_) rfl (by kernel_rfl) (by kernel_rfl) (by kernel_rfl) (fun _ _ _ h => h) (And.intro X_8.out (And.intro S_8.out (And.intro C_8.out Y_8.out))) (Or.inl ⟨by rfl, ?_⟩) ?_
    rotate_left
    · intro W hW
      go_simp
      try with_reducible rfl
    try simp only [List.getElem_toArray, List.getElem_cons_zero, List.getElem_cons_succ, Act.put, List.setIfInBounds_toArray, List.set_cons_zero, List.set_cons_succ]
    refine anyC_take (i := 11) (v := ?_) rfl (by kernel_rfl) (by kernel_rfl) (by kernel_rfl) (fun _ _ _ h => h) (And.intro X_8.out (And.intro S_8.out (And.intro C_8.out Y_8.out))) (Or.inl ⟨by rfl, ?_⟩) ?_
    rotate_left
    · intro W hW
      go_simp
      try with_reducible rfl
    try simp only [List.getElem_toArray, List.getElem_cons_zero, List.getElem_cons_succ, Act.put, List.setIfInBounds_toArray, List.set_cons_zero, List.set_cons_succ]
    refine anyC_done (by kernel_rfl) ?_ _
    obtain ⟨Ap, cp, rfl, hcp, hcp2⟩ := id G_8.out
    obtain ⟨Aq, cq, rfl, -, -⟩ := id Q_8.out
    rw [List.length_map] at hcp hcp2
    have y0 : w5.cell? ⟨w1.heap.size, 0, none⟩ = some (.int .i64 st) := Y_8.out.cell 0
    have HCn := Lib.hid (fun x => contains_any Q_8.out x (by have := HT2.out; omega))
    have hln : T1.length = T2.length := HL1.out.1
    simp only [List.length_map] at HCn ⊢
    rw [← hln] at HCn ⊢
    obtain ⟨m, hm⟩ : ∃ m, T1.length = m := ⟨_, rfl⟩
    have HM := Lib.hid (And.intro hm hcp2)
    have hmI : (m : Int) ≤ 1000 := by have := HT1.out; omega
    rw [hm] at HCn ⊢
    rw [hm] at hcp
    clear hln hm hcp2
    go_wp2_with fail
    go_loopw [72] (fun i wr => ∃ k : Nat, k ≤ m ∧ i = .int .i64 k ∧ wr = w5) (fun i _ => m - (intOf i).toNat)
    case atStart => exact ⟨0, Nat.zero_le _, rfl, rfl⟩
    case round =>
      obtain ⟨k, hk, rfl, rfl⟩ := hrel
      have hkI : (k : Int) ≤ m := by omega
      by_cases hlt : k < m
      · have hltI : (k : Int) < m := by omega
        have hkl : k < T1.length := by have := HM.out.1; omega
        obtain ⟨x, hxe⟩ : ∃ x, T1[k] = x := ⟨_, rfl⟩
        obtain ⟨g, o, rfl, -, hcl⟩ := HM.out.2 (by omega)
        have c0 : wr.cell? ⟨g, o + k, none⟩ = some (.int .i64 x) := hcl k _ (by rw [List.getElem?_map, List.getElem?_eq_getElem hkl, hxe]; rfl)
        have hxm : x ∈ T1 := by rw [← hxe]; exact List.getElem_mem _
        by_cases hgt : (st : Int) < x
        · have hgd : decide ((st : Int) < x) = true := decide_eq_true hgt
          have hno := HL1.out.2 x hxm hgt
          have HC1 := Lib.hid (HCn.out x)
          rw [hno] at HC1
          clear hcl hxe hxm hno
          go_wp2_with fail
          refine HC1.out.mono ?_
          rintro e w6 ⟨rfl, rfl⟩
          go_wp2_with fail
          go_roundw
          case rel => exact ⟨k + 1, by omega, by go_num, by first | trivial | rfl⟩
          case measure => simp [intOf]; omega
        · have hgd : decide ((st : Int) < x) = false := decide_eq_false hgt
          clear hcl hxe hxm
          go_wp2_with fail
          go_roundw
          case rel => exact ⟨k + 1, by omega, by go_num, by first | trivial | rfl⟩
          case measure => simp [intOf]; omega
      · obtain rfl : k = m := by omega
        go_wp2_with fail
        refine (HA.out _).mono ?_
        rintro e wz ⟨rfl, hbz⟩
        have B_9 := Lib.hid (B_8.out.trans (hbz.mono B_8.out.size))
        have X_9 := Lib.hid (X_8.out.below hbz X_8.out.lt)
        have S_9 := Lib.hid (S_8.out.below hbz S_8.out.lt)
        have C_9 := Lib.hid (C_8.out.below hbz C_8.out.lt)
        have R_9 := Lib.hid ((R_8.out.below hbz (Nat.le_refl _)).mono hbz.size)
        have Y_9 := Lib.hid (Y_8.out.below hbz Y_8.out.lt)
        have V_9 := Lib.hid ((V_8.out.below hbz (Nat.le_refl _)).mono hbz.size)
        have G_9 := Lib.hid ((G_8.out.below hbz (Nat.le_refl _)).mono hbz.size)
        have Q_9 := Lib.hid ((Q_8.out.below hbz (Nat.le_refl _)).mono hbz.size)
        clear B_8 X_8 S_8 C_8 R_8 Y_8 V_8 G_8 Q_8 hbz
        go_wp2_with fail
        go_ret
        exact ⟨rfl, B_9.out⟩

set_option maxRecDepth 100000 in
set_option maxHeartbeats 6400000 in
theorem own_marks7 (a b p q : Nat) (tg mb : ByteArray) (items mode : Int) (sil : Bool) (fl : Int) (A D : Option Addr) (n cap nd cd : Nat) (l : List RB) (w : World) (ha : a < 256) (hb : b < 256) (hp : p < 256) (hq : q < 256) (hR : RgL w w.heap.size (.slice A n cap) (l.map RB.rng)) (hmk : marksB items = true) :
    Calls Tryz.prog 4 #[.agg #[.int .u8 a, .int .u8 b], .agg #[.int .u8 p, .int .u8 q], .agg #[.string tg, .int .i64 7, .string mb, .slice A n cap, .int .i64 items, .int .i64 mode, .bool sil, .int .u8 fl, .slice D nd cd]] w fun e w' => e = .returned (.bool true) ∧ Below w.heap.size w w' := by
  have hRn : n = l.length := by
    obtain ⟨A', c', he, -⟩ := hR
    injection he with h1 h2 h3
    rw [h2, List.length_map]
  have hb0 : Below w.heap.size w (w.alloc (.cells #[.int .u8 a, .int .u8 b] 22)) := (Below.refl _ w).alloc (Nat.le_refl _) _
  have hb1 := hb0.alloc hb0.size (.cells #[.int .u8 p, .int .u8 q] 22)
  have hb2 := hb1.alloc hb1.size (.cells #[.string tg, .int .i64 7, .string mb, .slice A n cap, .int .i64 items, .int .i64 mode, .bool sil, .int .u8 fl, .slice D nd cd] 30)
  have kx := ((Blk.made w 22 #[.int .u8 a, .int .u8 b]).past (.cells #[.int .u8 p, .int .u8 q] 22)).past (.cells #[.string tg, .int .i64 7, .string mb, .slice A n cap, .int .i64 items, .int .i64 mode, .bool sil, .int .u8 fl, .slice D nd cd] 30)
  have ks := (Blk.made (w.alloc (.cells #[.int .u8 a, .int .u8 b] 22)) 22 #[.int .u8 p, .int .u8 q]).past (.cells #[.string tg, .int .i64 7, .string mb, .slice A n cap, .int .i64 items, .int .i64 mode, .bool sil, .int .u8 fl, .slice D nd cd] 30)
  have kc := Blk.made ((w.alloc (.cells #[.int .u8 a, .int .u8 b] 22)).alloc (.cells #[.int .u8 p, .int .u8 q] 22)) 30 #[.string tg, .int .i64 7, .string mb, .slice A n cap, .int .i64 items, .int .i64 mode, .bool sil, .int .u8 fl, .slice D nd cd]
  rw [World.size_alloc] at ks
  rw [World.size_alloc, World.size_alloc] at kc
  have hlay := layout_any a b ha hb
  obtain ⟨st, hst⟩ : ∃ st, lSt a = st := ⟨_, rfl⟩
  obtain ⟨ss, hss⟩ : ∃ ss, lSs b = ss := ⟨_, rfl⟩
  have hs1 : 0 < st ∧ st ≤ 16 := hst ▸ lSt_pos a
  have hs2 : ss ≤ 16 := hss ▸ lSs_le b
  rw [hst, hss] at hlay
  have HY := Lib.hid hlay
  have HA := Lib.hid (fun W => alive_any W)
  have HF := Lib.hid (fun W => fewc_any tg mb 7 items mode sil fl A D n cap nd cd W)
  obtain ⟨f, hf⟩ : ∃ f, fewC tg mb n nd = f := ⟨_, rfl⟩
  have hfl : f = true → mb.size ≤ 300 ∧ n ≤ 60 := fun h => by
    rw [h] at hf
    unfold fewC at hf
    simp only [Bool.and_eq_true, decide_eq_true_eq] at hf
    exact ⟨hf.2.1, hf.2.2.1⟩
  rw [hf] at HF
  clear hf hlay
  have B_0 := Lib.hid hb2
  have X_0 := Lib.hid kx
  have S_0 := Lib.hid ks
  have C_0 := Lib.hid kc
  have R_0 := Lib.hid ((hR.below hb2 (Nat.le_refl _)).mono hb2.size)
  have HP := Lib.hid (And.intro hRn hfl)
  clear hb0 hb1 hb2 kx ks kc hR hRn hfl
  have hm1 : (bits BinOp.and IntKind.i64 items 16 != 0) = true := hmk
  have hm2 : ¬ (bits BinOp.and IntKind.i64 items 16 = 0) := by simpa using hm1
  have hm3 : (bits BinOp.and IntKind.i64 items 16 == 0) = false := by simpa using hm2
  clear hmk
  cases f
  · go_enter Tryz.func4, Tryz.ntmps4
    go_wp2_with fail
    refine (HY.out _).mono ?_
    rintro e w1 ⟨rfl, hb1⟩
    have B_1 := Lib.hid (B_0.out.trans (hb1.mono B_0.out.size))
    have X_1 := Lib.hid (X_0.out.below hb1 X_0.out.lt)
    have S_1 := Lib.hid (S_0.out.below hb1 S_0.out.lt)
    have C_1 := Lib.hid (C_0.out.below hb1 C_0.out.lt)
    have R_1 := Lib.hid ((R_0.out.below hb1 (Nat.le_refl _)).mono hb1.size)
    clear B_0 X_0 S_0 C_0 R_0 hb1
    have hbl : Below w1.heap.size w1 (w1.alloc (.cells #[.int .i64 st, .int .i64 ss] 34)) := (Below.refl _ _).alloc (Nat.le_refl _) _
    have B_2 := Lib.hid (B_1.out.trans (hbl.mono B_1.out.size))
    have X_2 := Lib.hid (X_1.out.below hbl X_1.out.lt)
    have S_2 := Lib.hid (S_1.out.below hbl S_1.out.lt)
    have C_2 := Lib.hid (C_1.out.below hbl C_1.out.lt)
    have R_2 := Lib.hid ((R_1.out.below hbl (Nat.le_refl _)).mono hbl.size)
    have Y_2 := Lib.hid (Blk.made w1 34 #[.int .i64 st, .int .i64 ss])
    clear B_1 X_1 S_1 C_1 R_1 hbl
    have c0 : (w1.alloc (.cells #[.int .i64 st, .int .i64 ss] 34)).cell? ⟨w.heap.size + 2, 0, none⟩ = some (.string tg) := C_2.out.cell 0
    have c1 : (w1.alloc (.cells #[.int .i64 st, .int .i64 ss] 34)).cell? ⟨w.heap.size + 2, 1, none⟩ = some (.int .i64 7) := C_2.out.cell 1
    have c2 : (w1.alloc (.cells #[.int .i64 st, .int .i64 ss] 34)).cell? ⟨w.heap.size + 2, 2, none⟩ = some (.string mb) := C_2.out.cell 2
    have c3 : (w1.alloc (.cells #[.int .i64 st, .int .i64 ss] 34)).cell? ⟨w.heap.size + 2, 3, none⟩ = some (.slice A n cap) := C_2.out.cell 3
    have c4 : (w1.alloc (.cells #[.int .i64 st, .int .i64 ss] 34)).cell? ⟨w.heap.size + 2, 4, none⟩ = some (.int .i64 items) := C_2.out.cell 4
    have c5 : (w1.alloc (.cells #[.int .i64 st, .int .i64 ss] 34)).cell? ⟨w.heap.size + 2, 5, none⟩ = some (.int .i64 mode) := C_2.out.cell 5
    have c6 : (w1.alloc (.cells #[.int .i64 st, .int .i64 ss] 34)).cell? ⟨w.heap.size + 2, 6, none⟩ = some (.bool sil) := C_2.out.cell 6
    have c7 : (w1.alloc (.cells #[.int .i64 st, .int .i64 ss] 34)).cell? ⟨w.heap.size + 2, 7, none⟩ = some (.int .u8 fl) := C_2.out.cell 7
    have c8 : (w1.alloc (.cells #[.int .i64 st, .int .i64 ss] 34)).cell? ⟨w.heap.size + 2, 8, none⟩ = some (.slice D nd cd) := C_2.out.cell 8
    go_wp2_with fail
    refine (HF.out _).mono ?_
    rintro e w2 ⟨rfl, hb2⟩
    have B_3 := Lib.hid (B_2.out.trans (hb2.mono B_2.out.size))
    have X_3 := Lib.hid (X_2.out.below hb2 X_2.out.lt)
    have S_3 := Lib.hid (S_2.out.below hb2 S_2.out.lt)
    have C_3 := Lib.hid (C_2.out.below hb2 C_2.out.lt)
    have R_3 := Lib.hid ((R_2.out.below hb2 (Nat.le_refl _)).mono hb2.size)
    have Y_3 := Lib.hid (Y_2.out.below hb2 Y_2.out.lt)
    clear B_2 X_2 S_2 C_2 R_2 Y_2 hb2 c0 c1 c2 c3 c4 c5 c6 c7 c8
    have c1 : w2.cell? ⟨w.heap.size + 2, 1, none⟩ = some (.int .i64 7) := C_3.out.cell 1
    have c4 : w2.cell? ⟨w.heap.size + 2, 4, none⟩ = some (.int .i64 items) := C_3.out.cell 4
    have y1 : w2.cell? ⟨w1.heap.size, 1, none⟩ = some (.int .i64 ss) := Y_3.out.cell 1
    go_wp2_with fail
    refine (HA.out _).mono ?_
    rintro e wz ⟨rfl, hbz⟩
    have B_4 := Lib.hid (B_3.out.trans (hbz.mono B_3.out.size))
    have X_4 := Lib.hid (X_3.out.below hbz X_3.out.lt)
    have S_4 := Lib.hid (S_3.out.below hbz S_3.out.lt)
    have C_4 := Lib.hid (C_3.out.below hbz C_3.out.lt)
    have R_4 := Lib.hid ((R_3.out.below hbz (Nat.le_refl _)).mono hbz.size)
    have Y_4 := Lib.hid (Y_3.out.below hbz Y_3.out.lt)
    clear B_3 X_3 S_3 C_3 R_3 Y_3 hbz
    go_wp2_with fail
    go_ret
    exact ⟨rfl, B_4.out⟩
  · go_enter Tryz.func4, Tryz.ntmps4
    go_wp2_with fail
    refine (HY.out _).mono ?_
    rintro e w1 ⟨rfl, hb1⟩
    have B_1 := Lib.hid (B_0.out.trans (hb1.mono B_0.out.size))
    have X_1 := Lib.hid (X_0.out.below hb1 X_0.out.lt)
    have S_1 := Lib.hid (S_0.out.below hb1 S_0.out.lt)
    have C_1 := Lib.hid (C_0.out.below hb1 C_0.out.lt)
    have R_1 := Lib.hid ((R_0.out.below hb1 (Nat.le_refl _)).mono hb1.size)
    clear B_0 X_0 S_0 C_0 R_0 hb1
    have hbl : Below w1.heap.size w1 (w1.alloc (.cells #[.int .i64 st, .int .i64 ss] 34)) := (Below.refl _ _).alloc (Nat.le_refl _) _
    have B_2 := Lib.hid (B_1.out.trans (hbl.mono B_1.out.size))
    have X_2 := Lib.hid (X_1.out.below hbl X_1.out.lt)
    have S_2 := Lib.hid (S_1.out.below hbl S_1.out.lt)
    have C_2 := Lib.hid (C_1.out.below hbl C_1.out.lt)
    have R_2 := Lib.hid ((R_1.out.below hbl (Nat.le_refl _)).mono hbl.size)
    have Y_2 := Lib.hid (Blk.made w1 34 #[.int .i64 st, .int .i64 ss])
    clear B_1 X_1 S_1 C_1 R_1 hbl
    have c0 : (w1.alloc (.cells #[.int .i64 st, .int .i64 ss] 34)).cell? ⟨w.heap.size + 2, 0, none⟩ = some (.string tg) := C_2.out.cell 0
    have c1 : (w1.alloc (.cells #[.int .i64 st, .int .i64 ss] 34)).cell? ⟨w.heap.size + 2, 1, none⟩ = some (.int .i64 7) := C_2.out.cell 1
    have c2 : (w1.alloc (.cells #[.int .i64 st, .int .i64 ss] 34)).cell? ⟨w.heap.size + 2, 2, none⟩ = some (.string mb) := C_2.out.cell 2
    have c3 : (w1.alloc (.cells #[.int .i64 st, .int .i64 ss] 34)).cell? ⟨w.heap.size + 2, 3, none⟩ = some (.slice A n cap) := C_2.out.cell 3
    have c4 : (w1.alloc (.cells #[.int .i64 st, .int .i64 ss] 34)).cell? ⟨w.heap.size + 2, 4, none⟩ = some (.int .i64 items) := C_2.out.cell 4
    have c5 : (w1.alloc (.cells #[.int .i64 st, .int .i64 ss] 34)).cell? ⟨w.heap.size + 2, 5, none⟩ = some (.int .i64 mode) := C_2.out.cell 5
    have c6 : (w1.alloc (.cells #[.int .i64 st, .int .i64 ss] 34)).cell? ⟨w.heap.size + 2, 6, none⟩ = some (.bool sil) := C_2.out.cell 6
    have c7 : (w1.alloc (.cells #[.int .i64 st, .int .i64 ss] 34)).cell? ⟨w.heap.size + 2, 7, none⟩ = some (.int .u8 fl) := C_2.out.cell 7
    have c8 : (w1.alloc (.cells #[.int .i64 st, .int .i64 ss] 34)).cell? ⟨w.heap.size + 2, 8, none⟩ = some (.slice D nd cd) := C_2.out.cell 8
    go_wp2_with fail
    refine (HF.out _).mono ?_
    rintro e w2 ⟨rfl, hb2⟩
    have B_3 := Lib.hid (B_2.out.trans (hb2.mono B_2.out.size))
    have X_3 := Lib.hid (X_2.out.below hb2 X_2.out.lt)
    have S_3 := Lib.hid (S_2.out.below hb2 S_2.out.lt)
    have C_3 := Lib.hid (C_2.out.below hb2 C_2.out.lt)
    have R_3 := Lib.hid ((R_2.out.below hb2 (Nat.le_refl _)).mono hb2.size)
    have Y_3 := Lib.hid (Y_2.out.below hb2 Y_2.out.lt)
    clear B_2 X_2 S_2 C_2 R_2 Y_2 hb2 c0 c1 c2 c3 c4 c5 c6 c7 c8
    have c1 : w2.cell? ⟨w.heap.size + 2, 1, none⟩ = some (.int .i64 7) := C_3.out.cell 1
    have c4 : w2.cell? ⟨w.heap.size + 2, 4, none⟩ = some (.int .i64 items) := C_3.out.cell 4
    have y1 : w2.cell? ⟨w1.heap.size, 1, none⟩ = some (.int .i64 ss) := Y_3.out.cell 1
    go_wp2_with fail
    refine (HA.out _).mono ?_
    rintro e wz ⟨rfl, hbz⟩
    have B_4 := Lib.hid (B_3.out.trans (hbz.mono B_3.out.size))
    have X_4 := Lib.hid (X_3.out.below hbz X_3.out.lt)
    have S_4 := Lib.hid (S_3.out.below hbz S_3.out.lt)
    have C_4 := Lib.hid (C_3.out.below hbz C_3.out.lt)
    have R_4 := Lib.hid ((R_3.out.below hbz (Nat.le_refl _)).mono hbz.size)
    have Y_4 := Lib.hid (Y_3.out.below hbz Y_3.out.lt)
    clear B_3 X_3 S_3 C_3 R_3 Y_3 hbz
    go_wp2_with fail
    go_ret
    exact ⟨rfl, B_4.out⟩

set_option maxRecDepth 100000 in
set_option maxHeartbeats 6400000 in
theorem own_ss7 (a b p q : Nat) (tg mb : ByteArray) (items mode : Int) (sil : Bool) (fl : Int) (A D : Option Addr) (n cap nd cd : Nat) (l : List RB) (w : World) (ha : a < 256) (hb : b < 256) (hp : p < 256) (hq : q < 256) (hR : RgL w w.heap.size (.slice A n cap) (l.map RB.rng)) (hmk : marksB items = false) (hsx : lSs b < 2) :
    Calls Tryz.prog 4 #[.agg #[.int .u8 a, .int .u8 b], .agg #[.int .u8 p, .int .u8 q], .agg #[.string tg, .int .i64 7, .string mb, .slice A n cap, .int .i64 items, .int .i64 mode, .bool sil, .int .u8 fl, .slice D nd cd]] w fun e w' => e = .returned (.bool true) ∧ Below w.heap.size w w' := by
  have hRn : n = l.length := by
    obtain ⟨A', c', he, -⟩ := hR
    injection he with h1 h2 h3
    rw [h2, List.length_map]
  have hb0 : Below w.heap.size w (w.alloc (.cells #[.int .u8 a, .int .u8 b] 22)) := (Below.refl _ w).alloc (Nat.le_refl _) _
  have hb1 := hb0.alloc hb0.size (.cells #[.int .u8 p, .int .u8 q] 22)
  have hb2 := hb1.alloc hb1.size (.cells #[.string tg, .int .i64 7, .string mb, .slice A n cap, .int .i64 items, .int .i64 mode, .bool sil, .int .u8 fl, .slice D nd cd] 30)
  have kx := ((Blk.made w 22 #[.int .u8 a, .int .u8 b]).past (.cells #[.int .u8 p, .int .u8 q] 22)).past (.cells #[.string tg, .int .i64 7, .string mb, .slice A n cap, .int .i64 items, .int .i64 mode, .bool sil, .int .u8 fl, .slice D nd cd] 30)
  have ks := (Blk.made (w.alloc (.cells #[.int .u8 a, .int .u8 b] 22)) 22 #[.int .u8 p, .int .u8 q]).past (.cells #[.string tg, .int .i64 7, .string mb, .slice A n cap, .int .i64 items, .int .i64 mode, .bool sil, .int .u8 fl, .slice D nd cd] 30)
  have kc := Blk.made ((w.alloc (.cells #[.int .u8 a, .int .u8 b] 22)).alloc (.cells #[.int .u8 p, .int .u8 q] 22)) 30 #[.string tg, .int .i64 7, .string mb, .slice A n cap, .int .i64 items, .int .i64 mode, .bool sil, .int .u8 fl, .slice D nd cd]
  rw [World.size_alloc] at ks
  rw [World.size_alloc, World.size_alloc] at kc
  have hlay := layout_any a b ha hb
  obtain ⟨st, hst⟩ : ∃ st, lSt a = st := ⟨_, rfl⟩
  obtain ⟨ss, hss⟩ : ∃ ss, lSs b = ss := ⟨_, rfl⟩
  have hs1 : 0 < st ∧ st ≤ 16 := hst ▸ lSt_pos a
  have hs2 : ss ≤ 16 := hss ▸ lSs_le b
  rw [hst, hss] at hlay
  have HY := Lib.hid hlay
  have HA := Lib.hid (fun W => alive_any W)
  have HF := Lib.hid (fun W => fewc_any tg mb 7 items mode sil fl A D n cap nd cd W)
  obtain ⟨f, hf⟩ : ∃ f, fewC tg mb n nd = f := ⟨_, rfl⟩
  have hfl : f = true → mb.size ≤ 300 ∧ n ≤ 60 := fun h => by
    rw [h] at hf
    unfold fewC at hf
    simp only [Bool.and_eq_true, decide_eq_true_eq] at hf
    exact ⟨hf.2.1, hf.2.2.1⟩
  rw [hf] at HF
  clear hf hlay
  have B_0 := Lib.hid hb2
  have X_0 := Lib.hid kx
  have S_0 := Lib.hid ks
  have C_0 := Lib.hid kc
  have R_0 := Lib.hid ((hR.below hb2 (Nat.le_refl _)).mono hb2.size)
  have HP := Lib.hid (And.intro hRn hfl)
  clear hb0 hb1 hb2 kx ks kc hR hRn hfl
  have hm1 : (bits BinOp.and IntKind.i64 items 16 != 0) = false := hmk
  have hm2 : bits BinOp.and IntKind.i64 items 16 = 0 := by simpa using hm1
  have hm3 : (bits BinOp.and IntKind.i64 items 16 == 0) = true := by simpa using hm2
  rw [hss] at hsx
  have hsI : (ss : Int) < 2 := by omega
  have hsd : decide ((ss : Int) < 2) = true := decide_eq_true hsI
  clear hmk hsx
  cases f
  · go_enter Tryz.func4, Tryz.ntmps4
    go_wp2_with fail
    refine (HY.out _).mono ?_
    rintro e w1 ⟨rfl, hb1⟩
    have B_1 := Lib.hid (B_0.out.trans (hb1.mono B_0.out.size))
    have X_1 := Lib.hid (X_0.out.below hb1 X_0.out.lt)
    have S_1 := Lib.hid (S_0.out.below hb1 S_0.out.lt)
    have C_1 := Lib.hid (C_0.out.below hb1 C_0.out.lt)
    have R_1 := Lib.hid ((R_0.out.below hb1 (Nat.le_refl _)).mono hb1.size)
    clear B_0 X_0 S_0 C_0 R_0 hb1
    have hbl : Below w1.heap.size w1 (w1.alloc (.cells #[.int .i64 st, .int .i64 ss] 34)) := (Below.refl _ _).alloc (Nat.le_refl _) _
    have B_2 := Lib.hid (B_1.out.trans (hbl.mono B_1.out.size))
    have X_2 := Lib.hid (X_1.out.below hbl X_1.out.lt)
    have S_2 := Lib.hid (S_1.out.below hbl S_1.out.lt)
    have C_2 := Lib.hid (C_1.out.below hbl C_1.out.lt)
    have R_2 := Lib.hid ((R_1.out.below hbl (Nat.le_refl _)).mono hbl.size)
    have Y_2 := Lib.hid (Blk.made w1 34 #[.int .i64 st, .int .i64 ss])
    clear B_1 X_1 S_1 C_1 R_1 hbl
    have c0 : (w1.alloc (.cells #[.int .i64 st, .int .i64 ss] 34)).cell? ⟨w.heap.size + 2, 0, none⟩ = some (.string tg) := C_2.out.cell 0
    have c1 : (w1.alloc (.cells #[.int .i64 st, .int .i64 ss] 34)).cell? ⟨w.heap.size + 2, 1, none⟩ = some (.int .i64 7) := C_2.out.cell 1
    have c2 : (w1.alloc (.cells #[.int .i64 st, .int .i64 ss] 34)).cell? ⟨w.heap.size + 2, 2, none⟩ = some (.string mb) := C_2.out.cell 2
    have c3 : (w1.alloc (.cells #[.int .i64 st, .int .i64 ss] 34)).cell? ⟨w.heap.size + 2, 3, none⟩ = some (.slice A n cap) := C_2.out.cell 3
    have c4 : (w1.alloc (.cells #[.int .i64 st, .int .i64 ss] 34)).cell? ⟨w.heap.size + 2, 4, none⟩ = some (.int .i64 items) := C_2.out.cell 4
    have c5 : (w1.alloc (.cells #[.int .i64 st, .int .i64 ss] 34)).cell? ⟨w.heap.size + 2, 5, none⟩ = some (.int .i64 mode) := C_2.out.cell 5
    have c6 : (w1.alloc (.cells #[.int .i64 st, .int .i64 ss] 34)).cell? ⟨w.heap.size + 2, 6, none⟩ = some (.bool sil) := C_2.out.cell 6
    have c7 : (w1.alloc (.cells #[.int .i64 st, .int .i64 ss] 34)).cell? ⟨w.heap.size + 2, 7, none⟩ = some (.int .u8 fl) := C_2.out.cell 7
    have c8 : (w1.alloc (.cells #[.int .i64 st, .int .i64 ss] 34)).cell? ⟨w.heap.size + 2, 8, none⟩ = some (.slice D nd cd) := C_2.out.cell 8
    go_wp2_with fail
    refine (HF.out _).mono ?_
    rintro e w2 ⟨rfl, hb2⟩
    have B_3 := Lib.hid (B_2.out.trans (hb2.mono B_2.out.size))
    have X_3 := Lib.hid (X_2.out.below hb2 X_2.out.lt)
    have S_3 := Lib.hid (S_2.out.below hb2 S_2.out.lt)
    have C_3 := Lib.hid (C_2.out.below hb2 C_2.out.lt)
    have R_3 := Lib.hid ((R_2.out.below hb2 (Nat.le_refl _)).mono hb2.size)
    have Y_3 := Lib.hid (Y_2.out.below hb2 Y_2.out.lt)
    clear B_2 X_2 S_2 C_2 R_2 Y_2 hb2 c0 c1 c2 c3 c4 c5 c6 c7 c8
    have c1 : w2.cell? ⟨w.heap.size + 2, 1, none⟩ = some (.int .i64 7) := C_3.out.cell 1
    have c4 : w2.cell? ⟨w.heap.size + 2, 4, none⟩ = some (.int .i64 items) := C_3.out.cell 4
    have y1 : w2.cell? ⟨w1.heap.size, 1, none⟩ = some (.int .i64 ss) := Y_3.out.cell 1
    go_wp2_with fail
    refine (HA.out _).mono ?_
    rintro e wz ⟨rfl, hbz⟩
    have B_4 := Lib.hid (B_3.out.trans (hbz.mono B_3.out.size))
    have X_4 := Lib.hid (X_3.out.below hbz X_3.out.lt)
    have S_4 := Lib.hid (S_3.out.below hbz S_3.out.lt)
    have C_4 := Lib.hid (C_3.out.below hbz C_3.out.lt)
    have R_4 := Lib.hid ((R_3.out.below hbz (Nat.le_refl _)).mono hbz.size)
    have Y_4 := Lib.hid (Y_3.out.below hbz Y_3.out.lt)
    clear B_3 X_3 S_3 C_3 R_3 Y_3 hbz
    go_wp2_with fail
    go_ret
    exact ⟨rfl, B_4.out⟩
  · go_enter Tryz.func4, Tryz.ntmps4
    go_wp2_with fail
    refine (HY.out _).mono ?_
    rintro e w1 ⟨rfl, hb1⟩
    have B_1 := Lib.hid (B_0.out.trans (hb1.mono B_0.out.size))
    have X_1 := Lib.hid (X_0.out.below hb1 X_0.out.lt)
    have S_1 := Lib.hid (S_0.out.below hb1 S_0.out.lt)
    have C_1 := Lib.hid (C_0.out.below hb1 C_0.out.lt)
    have R_1 := Lib.hid ((R_0.out.below hb1 (Nat.le_refl _)).mono hb1.size)
    clear B_0 X_0 S_0 C_0 R_0 hb1
    have hbl : Below w1.heap.size w1 (w1.alloc (.cells #[.int .i64 st, .int .i64 ss] 34)) := (Below.refl _ _).alloc (Nat.le_refl _) _
    have B_2 := Lib.hid (B_1.out.trans (hbl.mono B_1.out.size))
    have X_2 := Lib.hid (X_1.out.below hbl X_1.out.lt)
    have S_2 := Lib.hid (S_1.out.below hbl S_1.out.lt)
    have C_2 := Lib.hid (C_1.out.below hbl C_1.out.lt)
    have R_2 := Lib.hid ((R_1.out.below hbl (Nat.le_refl _)).mono hbl.size)
    have Y_2 := Lib.hid (Blk.made w1 34 #[.int .i64 st, .int .i64 ss])
    clear B_1 X_1 S_1 C_1 R_1 hbl
    have c0 : (w1.alloc (.cells #[.int .i64 st, .int .i64 ss] 34)).cell? ⟨w.heap.size + 2, 0, none⟩ = some (.string tg) := C_2.out.cell 0
    have c1 : (w1.alloc (.cells #[.int .i64 st, .int .i64 ss] 34)).cell? ⟨w.heap.size + 2, 1, none⟩ = some (.int .i64 7) := C_2.out.cell 1
    have c2 : (w1.alloc (.cells #[.int .i64 st, .int .i64 ss] 34)).cell? ⟨w.heap.size + 2, 2, none⟩ = some (.string mb) := C_2.out.cell 2
    have c3 : (w1.alloc (.cells #[.int .i64 st, .int .i64 ss] 34)).cell? ⟨w.heap.size + 2, 3, none⟩ = some (.slice A n cap) := C_2.out.cell 3
    have c4 : (w1.alloc (.cells #[.int .i64 st, .int .i64 ss] 34)).cell? ⟨w.heap.size + 2, 4, none⟩ = some (.int .i64 items) := C_2.out.cell 4
    have c5 : (w1.alloc (.cells #[.int .i64 st, .int .i64 ss] 34)).cell? ⟨w.heap.size + 2, 5, none⟩ = some (.int .i64 mode) := C_2.out.cell 5
    have c6 : (w1.alloc (.cells #[.int .i64 st, .int .i64 ss] 34)).cell? ⟨w.heap.size + 2, 6, none⟩ = some (.bool sil) := C_2.out.cell 6
    have c7 : (w1.alloc (.cells #[.int .i64 st, .int .i64 ss] 34)).cell? ⟨w.heap.size + 2, 7, none⟩ = some (.int .u8 fl) := C_2.out.cell 7
    have c8 : (w1.alloc (.cells #[.int .i64 st, .int .i64 ss] 34)).cell? ⟨w.heap.size + 2, 8, none⟩ = some (.slice D nd cd) := C_2.out.cell 8
    go_wp2_with fail
    refine (HF.out _).mono ?_
    rintro e w2 ⟨rfl, hb2⟩
    have B_3 := Lib.hid (B_2.out.trans (hb2.mono B_2.out.size))
    have X_3 := Lib.hid (X_2.out.below hb2 X_2.out.lt)
    have S_3 := Lib.hid (S_2.out.below hb2 S_2.out.lt)
    have C_3 := Lib.hid (C_2.out.below hb2 C_2.out.lt)
    have R_3 := Lib.hid ((R_2.out.below hb2 (Nat.le_refl _)).mono hb2.size)
    have Y_3 := Lib.hid (Y_2.out.below hb2 Y_2.out.lt)
    clear B_2 X_2 S_2 C_2 R_2 Y_2 hb2 c0 c1 c2 c3 c4 c5 c6 c7 c8
    have c1 : w2.cell? ⟨w.heap.size + 2, 1, none⟩ = some (.int .i64 7) := C_3.out.cell 1
    have c4 : w2.cell? ⟨w.heap.size + 2, 4, none⟩ = some (.int .i64 items) := C_3.out.cell 4
    have y1 : w2.cell? ⟨w1.heap.size, 1, none⟩ = some (.int .i64 ss) := Y_3.out.cell 1
    go_wp2_with fail
    refine (HA.out _).mono ?_
    rintro e wz ⟨rfl, hbz⟩
    have B_4 := Lib.hid (B_3.out.trans (hbz.mono B_3.out.size))
    have X_4 := Lib.hid (X_3.out.below hbz X_3.out.lt)
    have S_4 := Lib.hid (S_3.out.below hbz S_3.out.lt)
    have C_4 := Lib.hid (C_3.out.below hbz C_3.out.lt)
    have R_4 := Lib.hid ((R_3.out.below hbz (Nat.le_refl _)).mono hbz.size)
    have Y_4 := Lib.hid (Y_3.out.below hbz Y_3.out.lt)
    clear B_3 X_3 S_3 C_3 R_3 Y_3 hbz
    go_wp2_with fail
    go_ret
    exact ⟨rfl, B_4.out⟩

set_option maxRecDepth 100000 in
set_option maxHeartbeats 6400000 in
theorem own_main7 (a b p q : Nat) (tg mb : ByteArray) (items mode : Int) (sil : Bool) (fl : Int) (A D : Option Addr) (n cap nd cd : Nat) (l : List RB) (w : World) (ha : a < 256) (hb : b < 256) (hp : p < 256) (hq : q < 256) (hR : RgL w w.heap.size (.slice A n cap) (l.map RB.rng)) (hfew : fewC tg mb n nd = true) (hmk : marksB items = false) (hsx : ¬ (lSs b < 2)) :
    Calls Tryz.prog 4 #[.agg #[.int .u8 a, .int .u8 b], .agg #[.int .u8 p, .int .u8 q], .agg #[.string tg, .int .i64 7, .string mb, .slice A n cap, .int .i64 items, .int .i64 mode, .bool sil, .int .u8 fl, .slice D nd cd]] w fun e w' => e = .returned (.bool true) ∧ Below w.heap.size w w' := by
  have hRn : n = l.length := by
    obtain ⟨A', c', he, -⟩ := hR
    injection he with h1 h2 h3
    rw [h2, List.length_map]
  have hb0 : Below w.heap.size w (w.alloc (.cells #[.int .u8 a, .int .u8 b] 22)) := (Below.refl _ w).alloc (Nat.le_refl _) _
  have hb1 := hb0.alloc hb0.size (.cells #[.int .u8 p, .int .u8 q] 22)
  have hb2 := hb1.alloc hb1.size (.cells #[.string tg, .int .i64 7, .string mb, .slice A n cap, .int .i64 items, .int .i64 mode, .bool sil, .int .u8 fl, .slice D nd cd] 30)
  have kx := ((Blk.made w 22 #[.int .u8 a, .int .u8 b]).past (.cells #[.int .u8 p, .int .u8 q] 22)).past (.cells #[.string tg, .int .i64 7, .string mb, .slice A n cap, .int .i64 items, .int .i64 mode, .bool sil, .int .u8 fl, .slice D nd cd] 30)
  have ks := (Blk.made (w.alloc (.cells #[.int .u8 a, .int .u8 b] 22)) 22 #[.int .u8 p, .int .u8 q]).past (.cells #[.string tg, .int .i64 7, .string mb, .slice A n cap, .int .i64 items, .int .i64 mode, .bool sil, .int .u8 fl, .slice D nd cd] 30)
  have kc := Blk.made ((w.alloc (.cells #[.int .u8 a, .int .u8 b] 22)).alloc (.cells #[.int .u8 p, .int .u8 q] 22)) 30 #[.string tg, .int .i64 7, .string mb, .slice A n cap, .int .i64 items, .int .i64 mode, .bool sil, .int .u8 fl, .slice D nd cd]
  rw [World.size_alloc] at ks
  rw [World.size_alloc, World.size_alloc] at kc
  have hlay := layout_any a b ha hb
  obtain ⟨st, hst⟩ : ∃ st, lSt a = st := ⟨_, rfl⟩
  obtain ⟨ss, hss⟩ : ∃ ss, lSs b = ss := ⟨_, rfl⟩
  have hs1 : 0 < st ∧ st ≤ 16 := hst ▸ lSt_pos a
  have hs2 : ss ≤ 16 := hss ▸ lSs_le b
  rw [hst, hss] at hlay
  have HY := Lib.hid hlay
  have HA := Lib.hid (fun W => alive_any W)
  have HF := Lib.hid (fun W => fewc_any tg mb 7 items mode sil fl A D n cap nd cd W)
  obtain ⟨f, hf⟩ : ∃ f, fewC tg mb n nd = f := ⟨_, rfl⟩
  have hfl : f = true → mb.size ≤ 300 ∧ n ≤ 60 := fun h => by
    rw [h] at hf
    unfold fewC at hf
    simp only [Bool.and_eq_true, decide_eq_true_eq] at hf
    exact ⟨hf.2.1, hf.2.2.1⟩
  rw [hf] at HF
  rw [hf] at hfew
  subst hfew
  clear hf hlay
  have B_0 := Lib.hid hb2
  have X_0 := Lib.hid kx
  have S_0 := Lib.hid ks
  have C_0 := Lib.hid kc
  have R_0 := Lib.hid ((hR.below hb2 (Nat.le_refl _)).mono hb2.size)
  have HP := Lib.hid (And.intro hRn hfl)
  clear hb0 hb1 hb2 kx ks kc hR hRn hfl
  have hm1 : (bits BinOp.and IntKind.i64 items 16 != 0) = false := hmk
  have hm2 : bits BinOp.and IntKind.i64 items 16 = 0 := by simpa using hm1
  have hm3 : (bits BinOp.and IntKind.i64 items 16 == 0) = true := by simpa using hm2
  rw [hss] at hsx
  have hsI : ¬ ((ss : Int) < 2) := by omega
  have hsd : decide ((ss : Int) < 2) = false := decide_eq_false hsI
  obtain ⟨pa, hpa⟩ : ∃ pa, p % ss = pa := ⟨_, rfl⟩
  obtain ⟨pb, hpb⟩ : ∃ pb, q % ss = pb := ⟨_, rfl⟩
  have hpal : pa < ss := by rw [← hpa]; exact Nat.mod_lt _ (by omega)
  have hpbl : pb < ss := by rw [← hpb]; exact Nat.mod_lt _ (by omega)
  have ht1 : (p : Int).tmod (ss : Int) = (pa : Int) := by rw [Int.tmod_eq_emod_of_nonneg (by omega), ← hpa]; exact (Int.natCast_emod p ss).symm
  have ht2 : (q : Int).tmod (ss : Int) = (pb : Int) := by rw [Int.tmod_eq_emod_of_nonneg (by omega), ← hpb]; exact (Int.natCast_emod q ss).symm
  have hw1 : IntKind.i64.wrap (p : Int) = p := by simp [IntKind.wrap, IntKind.bits, IntKind.signed]; omega
  have hw2 : IntKind.i64.wrap (q : Int) = q := by simp [IntKind.wrap, IntKind.bits, IntKind.signed]; omega
  have hw3 : IntKind.i64.wrap (pa : Int) = pa := by simp [IntKind.wrap, IntKind.bits, IntKind.signed]; omega
  have hw4 : IntKind.i64.wrap (pb : Int) = pb := by simp [IntKind.wrap, IntKind.bits, IntKind.signed]; omega
  have hzN : ¬ (ss = 0) := by omega
  have hz1 : ¬ ((ss : Int) = 0) := by omega
  have hz2 : ((ss : Int) == 0) = false := by simpa using hz1
  have hz3 : ¬ ((ss : Int) = -1) := by omega
  have HFr := Lib.hid (fun (sid : Nat) vb W (hV : VwR W W.heap.size (some ⟨vb, 0, none⟩) [1, 2, 3]) (hR : RgL W W.heap.size (.slice A n cap) (l.map RB.rng)) => planfor_any st ss (by omega) (by omega) hs1.1 sid (some ⟨vb, 0, none⟩) true rfl [1, 2, 3] l tg mb 7 items mode sil fl A D n cap nd cd (HP.out.2 rfl).1 W hV hR (by decide) (by have := HP.out.1; have := (HP.out.2 rfl).2; omega) (by decide))
  have HTl : Hid (∀ sid : Nat, (forL st ss sid (some [1, 2, 3]) 7 (inboxB mb) (l.map RB.rng) false).length ≤ 1000) := Lib.hid (fun sid => forL_len (by omega) (by omega) (fun vl h => by injection h with h; rw [← h]; decide))
  have HL := Lib.hid (fun (hne : pa ≠ pb) => own_law hs1.1 hpal hpbl hne (show ((7 : Int) = 1 ∨ (7 : Int) = 7) by decide) [1, 2, 3] (inboxB mb) (l.map RB.rng))
  rw [hmk] at HFr
  simp only [if_true] at HFr
  have HV := Lib.hid (fun W => v123_any W)
  clear hmk hsx hpa hpb ha hb hst hss
  go_enter Tryz.func4, Tryz.ntmps4
  go_wp2_with fail
  refine (HY.out _).mono ?_
  rintro e w1 ⟨rfl, hb1⟩
  have B_1 := Lib.hid (B_0.out.trans (hb1.mono B_0.out.size))
  have X_1 := Lib.hid (X_0.out.below hb1 X_0.out.lt)
  have S_1 := Lib.hid (S_0.out.below hb1 S_0.out.lt)
  have C_1 := Lib.hid (C_0.out.below hb1 C_0.out.lt)
  have R_1 := Lib.hid ((R_0.out.below hb1 (Nat.le_refl _)).mono hb1.size)
  clear B_0 X_0 S_0 C_0 R_0 hb1
  have hbl : Below w1.heap.size w1 (w1.alloc (.cells #[.int .i64 st, .int .i64 ss] 34)) := (Below.refl _ _).alloc (Nat.le_refl _) _
  have B_2 := Lib.hid (B_1.out.trans (hbl.mono B_1.out.size))
  have X_2 := Lib.hid (X_1.out.below hbl X_1.out.lt)
  have S_2 := Lib.hid (S_1.out.below hbl S_1.out.lt)
  have C_2 := Lib.hid (C_1.out.below hbl C_1.out.lt)
  have R_2 := Lib.hid ((R_1.out.below hbl (Nat.le_refl _)).mono hbl.size)
  have Y_2 := Lib.hid (Blk.made w1 34 #[.int .i64 st, .int .i64 ss])
  clear B_1 X_1 S_1 C_1 R_1 hbl
  have c0 : (w1.alloc (.cells #[.int .i64 st, .int .i64 ss] 34)).cell? ⟨w.heap.size + 2, 0, none⟩ = some (.string tg) := C_2.out.cell 0
  have c1 : (w1.alloc (.cells #[.int .i64 st, .int .i64 ss] 34)).cell? ⟨w.heap.size + 2, 1, none⟩ = some (.int .i64 7) := C_2.out.cell 1
  have c2 : (w1.alloc (.cells #[.int .i64 st, .int .i64 ss] 34)).cell? ⟨w.heap.size + 2, 2, none⟩ = some (.string mb) := C_2.out.cell 2
  have c3 : (w1.alloc (.cells #[.int .i64 st, .int .i64 ss] 34)).cell? ⟨w.heap.size + 2, 3, none⟩ = some (.slice A n cap) := C_2.out.cell 3
  have c4 : (w1.alloc (.cells #[.int .i64 st, .int .i64 ss] 34)).cell? ⟨w.heap.size + 2, 4, none⟩ = some (.int .i64 items) := C_2.out.cell 4
  have c5 : (w1.alloc (.cells #[.int .i64 st, .int .i64 ss] 34)).cell? ⟨w.heap.size + 2, 5, none⟩ = some (.int .i64 mode) := C_2.out.cell 5
  have c6 : (w1.alloc (.cells #[.int .i64 st, .int .i64 ss] 34)).cell? ⟨w.heap.size + 2, 6, none⟩ = some (.bool sil) := C_2.out.cell 6
  have c7 : (w1.alloc (.cells #[.int .i64 st, .int .i64 ss] 34)).cell? ⟨w.heap.size + 2, 7, none⟩ = some (.int .u8 fl) := C_2.out.cell 7
  have c8 : (w1.alloc (.cells #[.int .i64 st, .int .i64 ss] 34)).cell? ⟨w.heap.size + 2, 8, none⟩ = some (.slice D nd cd) := C_2.out.cell 8
  go_wp2_with fail
  refine (HF.out _).mono ?_
  rintro e w2 ⟨rfl, hb2⟩
  have B_3 := Lib.hid (B_2.out.trans (hb2.mono B_2.out.size))
  have X_3 := Lib.hid (X_2.out.below hb2 X_2.out.lt)
  have S_3 := Lib.hid (S_2.out.below hb2 S_2.out.lt)
  have C_3 := Lib.hid (C_2.out.below hb2 C_2.out.lt)
  have R_3 := Lib.hid ((R_2.out.below hb2 (Nat.le_refl _)).mono hb2.size)
  have Y_3 := Lib.hid (Y_2.out.below hb2 Y_2.out.lt)
  clear B_2 X_2 S_2 C_2 R_2 Y_2 hb2 c0 c1 c2 c3 c4 c5 c6 c7 c8
  have c1 : w2.cell? ⟨w.heap.size + 2, 1, none⟩ = some (.int .i64 7) := C_3.out.cell 1
  have c4 : w2.cell? ⟨w.heap.size + 2, 4, none⟩ = some (.int .i64 items) := C_3.out.cell 4
  have y1 : w2.cell? ⟨w1.heap.size, 1, none⟩ = some (.int .i64 ss) := Y_3.out.cell 1
  go_upto_region 4 with fail
  clear c1 c4 y1
  have hbw : Below w2.heap.size w2 w2.drew := Below.drew (Below.refl _ _)
  have B_4 := Lib.hid (B_3.out.trans (hbw.mono B_3.out.size))
  have X_4 := Lib.hid (X_3.out.below hbw X_3.out.lt)
  have S_4 := Lib.hid (S_3.out.below hbw S_3.out.lt)
  have C_4 := Lib.hid (C_3.out.below hbw C_3.out.lt)
  have R_4 := Lib.hid ((R_3.out.below hbw (Nat.le_refl _)).mono hbw.size)
  have Y_4 := Lib.hid (Y_3.out.below hbw Y_3.out.lt)
  clear B_3 X_3 S_3 C_3 R_3 Y_3 hbw
  refine region_anyC (fun W => Blk W w.heap.size 22 #[.int .u8 a, .int .u8 b] ∧ Blk W (w.heap.size + 1) 22 #[.int .u8 p, .int .u8 q] ∧ Blk W (w.heap.size + 1 + 1) 30 #[.string tg, .int .i64 7, .string mb, .slice A n cap, .int .i64 items, .int .i64 mode, .bool sil, .int .u8 fl, .slice D nd cd] ∧ Blk W w1.heap.size 34 #[.int .i64 st, .int .i64 ss]) (by kernel_rfl) ?_
  refine anyC_take (i := 0) (v := ?_) rfl (by kernel_rfl) (by kernel_rfl) (by kernel_rfl) (fun _ _ _ h => h) (And.intro X_4.out (And.intro S_4.out (And.intro C_4.out Y_4.out))) (Or.inl ⟨by rfl, ?_⟩) ?_
  rotate_left
  · intro W hW
    go_simp
    try with_reducible rfl
  try simp only [List.getElem_toArray, List.getElem_cons_zero, List.getElem_cons_succ, Act.put, List.setIfInBounds_toArray, List.set_cons_zero, List.set_cons_succ]
  refine anyC_take (i := 1) (v := ?_) rfl (by kernel_rfl) (by kernel_rfl) (by kernel_rfl) (fun _ _ _ h => h) (And.intro X_4.out (And.intro S_4.out (And.intro C_4.out Y_4.out))) (Or.inl ⟨by rfl, ?_⟩) ?_
  rotate_left
  · intro W hW
    have s0 : W.cell? ⟨w.heap.size + 1, 0, none⟩ = some (.int .u8 p) := hW.2.1.cell 0
    go_simp
    try with_reducible rfl
  try simp only [List.getElem_toArray, List.getElem_cons_zero, List.getElem_cons_succ, Act.put, List.setIfInBounds_toArray, List.set_cons_zero, List.set_cons_succ]
  refine anyC_take (i := 2) (v := ?_) rfl (by kernel_rfl) (by kernel_rfl) (by kernel_rfl) (fun _ _ _ h => h) (And.intro X_4.out (And.intro S_4.out (And.intro C_4.out Y_4.out))) (Or.inl ⟨by rfl, ?_⟩) ?_
  rotate_left
  · intro W hW
    go_simp
    try with_reducible rfl
  try simp only [List.getElem_toArray, List.getElem_cons_zero, List.getElem_cons_succ, Act.put, List.setIfInBounds_toArray, List.set_cons_zero, List.set_cons_succ]
  refine anyC_take (i := 3) (v := ?_) rfl (by kernel_rfl) (by kernel_rfl) (by kernel_rfl) (fun _ _ _ h => h) (And.intro X_4.out (And.intro S_4.out (And.intro C_4.out Y_4.out))) (Or.inl ⟨by rfl, ?_⟩) ?_
  rotate_left
  · intro W hW
    go_simp
    try with_reducible rfl
  try simp only [List.getElem_toArray, List.getElem_cons_zero, List.getElem_cons_succ, Act.put, List.setIfInBounds_toArray, List.set_cons_zero, List.set_cons_succ]
  refine anyC_take (i := 4) (v := ?_) rfl (by kernel_rfl) (by kernel_rfl) (by kernel_rfl) (fun _ _ _ h => h) (And.intro X_4.out (And.intro S_4.out (And.intro C_4.out Y_4.out))) (Or.inl ⟨by rfl, ?_⟩) ?_
  rotate_left
  · intro W hW
    have y1 : W.cell? ⟨w1.heap.size, 1, none⟩ = some (.int .i64 ss) := hW.2.2.2.cell 1
    go_simp
    try with_reducible rfl
  try simp only [List.getElem_toArray, List.getElem_cons_zero, List.getElem_cons_succ, Act.put, List.setIfInBounds_toArray, List.set_cons_zero, List.set_cons_succ]
  refine anyC_take (i := 5) (v := ?_) rfl (by kernel_rfl) (by kernel_rfl) (by kernel_rfl) (fun _ _ _ h => h) (And.intro X_4.out (And.intro S_4.out (And.intro C_4.out Y_4.out))) (Or.inl ⟨by rfl, ?_⟩) ?_
  rotate_left
  · intro W hW
    go_simp
    try with_reducible rfl
  try simp only [List.getElem_toArray, List.getElem_cons_zero, List.getElem_cons_succ, Act.put, List.setIfInBounds_toArray, List.set_cons_zero, List.set_cons_succ]
  refine anyC_take (i := 6) (v := ?_) rfl (by kernel_rfl) (by kernel_rfl) (by kernel_rfl) (fun _ _ _ h => h) (And.intro X_4.out (And.intro S_4.out (And.intro C_4.out Y_4.out))) (Or.inl ⟨by rfl, ?_⟩) ?_
  rotate_left
  · intro W hW
    go_simp
    try with_reducible rfl
  try simp only [List.getElem_toArray, List.getElem_cons_zero, List.getElem_cons_succ, Act.put, List.setIfInBounds_toArray, List.set_cons_zero, List.set_cons_succ]
  refine anyC_take (i := 7) (v := ?_) rfl (by kernel_rfl) (by kernel_rfl) (by kernel_rfl) (fun _ _ _ h => h) (And.intro X_4.out (And.intro S_4.out (And.intro C_4.out Y_4.out))) (Or.inl ⟨by rfl, ?_⟩) ?_
  rotate_left
  · intro W hW
    have s1 : W.cell? ⟨w.heap.size + 1, 1, none⟩ = some (.int .u8 q) := hW.2.1.cell 1
    go_simp
    try with_reducible rfl
  try simp only [List.getElem_toArray, List.getElem_cons_zero, List.getElem_cons_succ, Act.put, List.setIfInBounds_toArray, List.set_cons_zero, List.set_cons_succ]
  refine anyC_take (i := 8) (v := ?_) rfl (by kernel_rfl) (by kernel_rfl) (by kernel_rfl) (fun _ _ _ h => h) (And.intro X_4.out (And.intro S_4.out (And.intro C_4.out Y_4.out))) (Or.inl ⟨by rfl, ?_⟩) ?_
  rotate_left
  · intro W hW
    go_simp
    try with_reducible rfl
  try simp only [List.getElem_toArray, List.getElem_cons_zero, List.getElem_cons_succ, Act.put, List.setIfInBounds_toArray, List.set_cons_zero, List.set_cons_succ]
  refine anyC_take (i := 9) (v := ?_) rfl (by kernel_rfl) (by kernel_rfl) (by kernel_rfl) (fun _ _ _ h => h) (And.intro X_4.out (And.intro S_4.out (And.intro C_4.out Y_4.out))) (Or.inl ⟨by rfl, ?_⟩) ?_
  rotate_left
  · intro W hW
    go_simp
    try with_reducible rfl
  try simp only [List.getElem_toArray, List.getElem_cons_zero, List.getElem_cons_succ, Act.put, List.setIfInBounds_toArray, List.set_cons_zero, List.set_cons_succ]
  refine anyC_take (i := 10) (v := ?_) rfl (by kernel_rfl) (by kernel_rfl) (by kernel_rfl) (fun _ _ _ h => h) (And.intro X_4.out (And.intro S_4.out (And.intro C_4.out Y_4.out))) (Or.inl ⟨by rfl, ?_⟩) ?_
  rotate_left
  · intro W hW
    have y1 : W.cell? ⟨w1.heap.size, 1, none⟩ = some (.int .i64 ss) := hW.2.2.2.cell 1
    go_simp
    try with_reducible rfl
  try simp only [List.getElem_toArray, List.getElem_cons_zero, List.getElem_cons_succ, Act.put, List.setIfInBounds_toArray, List.set_cons_zero, List.set_cons_succ]
  refine anyC_take (i := 11) (v := ?_) rfl (by kernel_rfl) (by kernel_rfl) (by kernel_rfl) (fun _ _ _ h => h) (And.intro X_4.out (And.intro S_4.out (And.intro C_4.out Y_4.out))) (Or.inl ⟨by rfl, ?_⟩) ?_
  rotate_left
  · intro W hW
    go_simp
    try with_reducible rfl
  try simp only [List.getElem_toArray, List.getElem_cons_zero, List.getElem_cons_succ, Act.put, List.setIfInBounds_toArray, List.set_cons_zero, List.set_cons_succ]
  refine anyC_take (i := 12) (v := ?_) rfl (by kernel_rfl) (by kernel_rfl) (by kernel_rfl) (fun _ _ _ h => h) (And.intro X_4.out (And.intro S_4.out (And.intro C_4.out Y_4.out))) (Or.inl ⟨by rfl, ?_⟩) ?_
  rotate_left
  · intro W hW
    go_simp
    try with_reducible rfl
  try simp only [List.getElem_toArray, List.getElem_cons_zero, List.getElem_cons_succ, Act.put, List.setIfInBounds_toArray, List.set_cons_zero, List.set_cons_succ]
  refine anyC_take (i := 13) (v := ?_) rfl (by kernel_rfl) (by kernel_rfl) (by kernel_rfl) (fun _ _ _ h => h) (And.intro X_4.out (And.intro S_4.out (And.intro C_4.out Y_4.out))) (Or.inl ⟨by rfl, ?_⟩) ?_
  rotate_left
  · intro W hW
    go_simp
    try with_reducible rfl
  try simp only [List.getElem_toArray, List.getElem_cons_zero, List.getElem_cons_succ, Act.put, List.setIfInBounds_toArray, List.set_cons_zero, List.set_cons_succ]
  refine anyC_done (by kernel_rfl) ?_ _
  by_cases hne : pa = pb
  · have hneI : (pa : Int) = (pb : Int) := by omega
    subst hne
    go_wp2_with fail
    refine (HA.out _).mono ?_
    rintro e wz ⟨rfl, hbz⟩
    have B_5 := Lib.hid (B_4.out.trans (hbz.mono B_4.out.size))
    have X_5 := Lib.hid (X_4.out.below hbz X_4.out.lt)
    have S_5 := Lib.hid (S_4.out.below hbz S_4.out.lt)
    have C_5 := Lib.hid (C_4.out.below hbz C_4.out.lt)
    have R_5 := Lib.hid ((R_4.out.below hbz (Nat.le_refl _)).mono hbz.size)
    have Y_5 := Lib.hid (Y_4.out.below hbz Y_4.out.lt)
    clear B_4 X_4 S_4 C_4 R_4 Y_4 hbz
    go_wp2_with fail
    go_ret
    exact ⟨rfl, B_5.out⟩
  · have hneI : ¬ ((pa : Int) = (pb : Int)) := by omega
    have hneb : ((pa : Int) == (pb : Int)) = false := by simpa using hneI
    have HL1 := Lib.hid (HL.out hne)
    obtain ⟨T1, hT1⟩ : ∃ T1, forL st ss pa (some [1, 2, 3]) 7 (inboxB mb) (l.map RB.rng) false = T1 := ⟨_, rfl⟩
    obtain ⟨T2, hT2⟩ : ∃ T2, forL st ss pb (some [1, 2, 3]) 7 (inboxB mb) (l.map RB.rng) false = T2 := ⟨_, rfl⟩
    have HF1 := Lib.hid (HFr.out pa)
    have HF2 := Lib.hid (HFr.out pb)
    have HT1 := Lib.hid (HTl.out pa)
    have HT2 := Lib.hid (HTl.out pb)
    rw [hT1] at HF1 HT1
    rw [hT2] at HF2 HT2
    rw [hT1, hT2] at HL1
    clear hT1 hT2 HL HFr HTl hne
    go_wp2_with fail
    refine (HV.out w2.drew).mono ?_
    rintro e w3 ⟨vb, rfl, hv, hb3⟩
    have B_5 := Lib.hid (B_4.out.trans (hb3.mono B_4.out.size))
    have X_5 := Lib.hid (X_4.out.below hb3 X_4.out.lt)
    have S_5 := Lib.hid (S_4.out.below hb3 S_4.out.lt)
    have C_5 := Lib.hid (C_4.out.below hb3 C_4.out.lt)
    have R_5 := Lib.hid ((R_4.out.below hb3 (Nat.le_refl _)).mono hb3.size)
    have Y_5 := Lib.hid (Y_4.out.below hb3 Y_4.out.lt)
    have V_5 := Lib.hid (hv)
    clear B_4 X_4 S_4 C_4 R_4 Y_4 hb3 hv
    go_upto_region 8 with fail
    have hbw : Below w3.heap.size w3 w3.drew := Below.drew (Below.refl _ _)
    have B_6 := Lib.hid (B_5.out.trans (hbw.mono B_5.out.size))
    have X_6 := Lib.hid (X_5.out.below hbw X_5.out.lt)
    have S_6 := Lib.hid (S_5.out.below hbw S_5.out.lt)
    have C_6 := Lib.hid (C_5.out.below hbw C_5.out.lt)
    have R_6 := Lib.hid ((R_5.out.below hbw (Nat.le_refl _)).mono hbw.size)
    have Y_6 := Lib.hid (Y_5.out.below hbw Y_5.out.lt)
    have V_6 := Lib.hid ((V_5.out.below hbw (Nat.le_refl _)).mono hbw.size)
    clear B_5 X_5 S_5 C_5 R_5 Y_5 V_5 hbw
    refine region_anyC (fun W => Blk W w.heap.size 22 #[.int .u8 a, .int .u8 b] ∧ Blk W (w.heap.size + 1) 22 #[.int .u8 p, .int .u8 q] ∧ Blk W (w.heap.size + 1 + 1) 30 #[.string tg, .int .i64 7, .string mb, .slice A n cap, .int .i64 items, .int .i64 mode, .bool sil, .int .u8 fl, .slice D nd cd] ∧ Blk W w1.heap.size 34 #[.int .i64 st, .int .i64 ss]) (by kernel_rfl) ?_
    refine anyC_take (i := 0) (v := ?_) rfl (by kernel_rfl) (by kernel_rfl) (by kernel_rfl) (fun _ _ _ h => h) (And.intro X_6.out (And.intro S_6.out (And.intro C_6.out Y_6.out))) (Or.inl ⟨by rfl, ?_⟩) ?_
    rotate_left
    · intro W hW
      have y0 : W.cell? ⟨w1.heap.size, 0, none⟩ = some (.int .i64 st) := hW.2.2.2.cell 0
      have y1 : W.cell? ⟨w1.heap.size, 1, none⟩ = some (.int .i64 ss) := hW.2.2.2.cell 1
      go_simp
      try with_reducible rfl
    try simp only [List.getElem_toArray, List.getElem_cons_zero, List.getElem_cons_succ, Act.put, List.setIfInBounds_toArray, List.set_cons_zero, List.set_cons_succ]
    refine anyC_take (i := 1) (v := ?_) rfl (by kernel_rfl) (by kernel_rfl) (by kernel_rfl) (fun _ _ _ h => h) (And.intro X_6.out (And.intro S_6.out (And.intro C_6.out Y_6.out))) (Or.inl ⟨by rfl, ?_⟩) ?_
    rotate_left
    · intro W hW
      go_simp
      try with_reducible rfl
    try simp only [List.getElem_toArray, List.getElem_cons_zero, List.getElem_cons_succ, Act.put, List.setIfInBounds_toArray, List.set_cons_zero, List.set_cons_succ]
    refine anyC_take (i := 2) (v := ?_) rfl (by kernel_rfl) (by kernel_rfl) (by kernel_rfl) (fun _ _ _ h => h) (And.intro X_6.out (And.intro S_6.out (And.intro C_6.out Y_6.out))) (Or.inl ⟨by rfl, ?_⟩) ?_
    rotate_left
    · intro W hW
      go_simp
      try with_reducible rfl
    try simp only [List.getElem_toArray, List.getElem_cons_zero, List.getElem_cons_succ, Act.put, List.setIfInBounds_toArray, List.set_cons_zero, List.set_cons_succ]
    refine anyC_take (i := 3) (v := ?_) rfl (by kernel_rfl) (by kernel_rfl) (by kernel_rfl) (fun _ _ _ h => h) (And.intro X_6.out (And.intro S_6.out (And.intro C_6.out Y_6.out))) (Or.inl ⟨by rfl, ?_⟩) ?_
    rotate_left
    · intro W hW
      have c0 : W.cell? ⟨w.heap.size + 1 + 1, 0, none⟩ = some (.string tg) := hW.2.2.1.cell 0
      have c1 : W.cell? ⟨w.heap.size + 1 + 1, 1, none⟩ = some (.int .i64 7) := hW.2.2.1.cell 1
      have c2 : W.cell? ⟨w.heap.size + 1 + 1, 2, none⟩ = some (.string mb) := hW.2.2.1.cell 2
      have c3 : W.cell? ⟨w.heap.size + 1 + 1, 3, none⟩ = some (.slice A n cap) := hW.2.2.1.cell 3
      have c4 : W.cell? ⟨w.heap.size + 1 + 1, 4, none⟩ = some (.int .i64 items) := hW.2.2.1.cell 4
      have c5 : W.cell? ⟨w.heap.size + 1 + 1, 5, none⟩ = some (.int .i64 mode) := hW.2.2.1.cell 5
      have c6 : W.cell? ⟨w.heap.size + 1 + 1, 6, none⟩ = some (.bool sil) := hW.2.2.1.cell 6
      have c7 : W.cell? ⟨w.heap.size + 1 + 1, 7, none⟩ = some (.int .u8 fl) := hW.2.2.1.cell 7
      have c8 : W.cell? ⟨w.heap.size + 1 + 1, 8, none⟩ = some (.slice D nd cd) := hW.2.2.1.cell 8
      go_simp
      try with_reducible rfl
    try simp only [List.getElem_toArray, List.getElem_cons_zero, List.getElem_cons_succ, Act.put, List.setIfInBounds_toArray, List.set_cons_zero, List.set_cons_succ]
    refine anyC_take (i := 5) (v := ?_) rfl (by kernel_rfl) (by kernel_rfl) (by kernel_rfl) (fun _ _ _ h => h) (And.intro X_6.out (And.intro S_6.out (And.intro C_6.out Y_6.out))) (Or.inl ⟨by rfl, ?_⟩) ?_
    rotate_left
    · intro W hW
      have y0 : W.cell? ⟨w1.heap.size, 0, none⟩ = some (.int .i64 st) := hW.2.2.2.cell 0
      have y1 : W.cell? ⟨w1.heap.size, 1, none⟩ = some (.int .i64 ss) := hW.2.2.2.cell 1
      go_simp
      try with_reducible rfl
    try simp only [List.getElem_toArray, List.getElem_cons_zero, List.getElem_cons_succ, Act.put, List.setIfInBounds_toArray, List.set_cons_zero, List.set_cons_succ]
    refine anyC_take (i := 6) (v := ?_) rfl (by kernel_rfl) (by kernel_rfl) (by kernel_rfl) (fun _ _ _ h => h) (And.intro X_6.out (And.intro S_6.out (And.intro C_6.out Y_6.out))) (Or.inl ⟨by rfl, ?_⟩) ?_
    rotate_left
    · intro W hW
      go_simp
      try with_reducible rfl
    try simp only [List.getElem_toArray, List.getElem_cons_zero, List.getElem_cons_succ, Act.put, List.setIfInBounds_toArray, List.set_cons_zero, List.set_cons_succ]
    refine anyC_take (i := 7) (v := ?_) rfl (by kernel_rfl) (by kernel_rfl) (by kernel_rfl) (fun _ _ _ h => h) (And.intro X_6.out (And.intro S_6.out (And.intro C_6.out Y_6.out))) (Or.inl ⟨by rfl, ?_⟩) ?_
    rotate_left
    · intro W hW
      go_simp
      try with_reducible rfl
    try simp only [List.getElem_toArray, List.getElem_cons_zero, List.getElem_cons_succ, Act.put, List.setIfInBounds_toArray, List.set_cons_zero, List.set_cons_succ]
    refine anyC_take (i := 8) (v := ?_) rfl (by kernel_rfl) (by kernel_rfl) (by kernel_rfl) (fun _ _ _ h => h) (And.intro X_6.out (And.intro S_6.out (And.intro C_6.out Y_6.out))) (Or.inl ⟨by rfl, ?_⟩) ?_
    rotate_left
    · intro W hW
      have c0 : W.cell? ⟨w.heap.size + 1 + 1, 0, none⟩ = some (.string tg) := hW.2.2.1.cell 0
      have c1 : W.cell? ⟨w.heap.size + 1 + 1, 1, none⟩ = some (.int .i64 7) := hW.2.2.1.cell 1
      have c2 : W.cell? ⟨w.heap.size + 1 + 1, 2, none⟩ = some (.string mb) := hW.2.2.1.cell 2
      have c3 : W.cell? ⟨w.heap.size + 1 + 1, 3, none⟩ = some (.slice A n cap) := hW.2.2.1.cell 3
      have c4 : W.cell? ⟨w.heap.size + 1 + 1, 4, none⟩ = some (.int .i64 items) := hW.2.2.1.cell 4
      have c5 : W.cell? ⟨w.heap.size + 1 + 1, 5, none⟩ = some (.int .i64 mode) := hW.2.2.1.cell 5
      have c6 : W.cell? ⟨w.heap.size + 1 + 1, 6, none⟩ = some (.bool sil) := hW.2.2.1.cell 6
      have c7 : W.cell? ⟨w.heap.size + 1 + 1, 7, none⟩ = some (.int .u8 fl) := hW.2.2.1.cell 7
      have c8 : W.cell? ⟨w.heap.size + 1 + 1, 8, none⟩ = some (.slice D nd cd) := hW.2.2.1.cell 8
      go_simp
      try with_reducible rfl
    try simp only [List.getElem_toArray, List.getElem_cons_zero, List.getElem_cons_succ, Act.put, List.setIfInBounds_toArray, List.set_cons_zero, List.set_cons_succ]
    refine anyC_one (i := 4) (by kernel_rfl) (fun K hK => ⟨_, rfl, by kernel_rfl, ?_⟩)
    go_simp
    refine (HF1.out vb _ V_6.out R_6.out).mono ?_
    rintro e w4 ⟨v4, rfl, hv4, hb4⟩
    have B_7 := Lib.hid (B_6.out.trans (hb4.mono B_6.out.size))
    have X_7 := Lib.hid (X_6.out.below hb4 X_6.out.lt)
    have S_7 := Lib.hid (S_6.out.below hb4 S_6.out.lt)
    have C_7 := Lib.hid (C_6.out.below hb4 C_6.out.lt)
    have R_7 := Lib.hid ((R_6.out.below hb4 (Nat.le_refl _)).mono hb4.size)
    have Y_7 := Lib.hid (Y_6.out.below hb4 Y_6.out.lt)
    have V_7 := Lib.hid ((V_6.out.below hb4 (Nat.le_refl _)).mono hb4.size)
    have G_7 := Lib.hid (lb_rd hv4)
    clear B_6 X_6 S_6 C_6 R_6 Y_6 V_6 hb4 hv4
    refine hK _ _ (And.intro X_7.out (And.intro S_7.out (And.intro C_7.out Y_7.out))) ?_
    clear hK K
    try simp only [List.getElem_toArray, List.getElem_cons_zero, List.getElem_cons_succ, Act.put, List.setIfInBounds_toArray, List.set_cons_zero, List.set_cons_succ]
    refine anyC_one (i := 9) (by kernel_rfl) (fun K hK => ⟨_, rfl, by kernel_rfl, ?_⟩)
    go_simp
    refine (HF2.out vb _ V_7.out R_7.out).mono ?_
    rintro e w5 ⟨v5, rfl, hv5, hb5⟩
    have B_8 := Lib.hid (B_7.out.trans (hb5.mono B_7.out.size))
    have X_8 := Lib.hid (X_7.out.below hb5 X_7.out.lt)
    have S_8 := Lib.hid (S_7.out.below hb5 S_7.out.lt)
    have C_8 := Lib.hid (C_7.out.below hb5 C_7.out.lt)
    have R_8 := Lib.hid ((R_7.out.below hb5 (Nat.le_refl _)).mono hb5.size)
    have Y_8 := Lib.hid (Y_7.out.below hb5 Y_7.out.lt)
    have V_8 := Lib.hid ((V_7.out.below hb5 (Nat.le_refl _)).mono hb5.size)
    have G_8 := Lib.hid ((G_7.out.below hb5 (Nat.le_refl _)).mono hb5.size)
    have Q_8 := Lib.hid (lb_rd hv5)
    clear B_7 X_7 S_7 C_7 R_7 Y_7 V_7 G_7 hb5 hv5
    refine hK _ _ (And.intro X_8.out (And.intro S_8.out (And.intro C_8.out Y_8.out))) ?_
    clear hK K
    try simp only [List.getElem_toArray, List.getElem_cons_zero, List.getElem_cons_succ, Act.put, List.setIfInBounds_toArray, List.set_cons_zero, List.set_cons_succ]
    refine anyC_take (i := 10) (v := ?_) rfl (by kernel_rfl) (by kernel_rfl) (by kernel_rfl) (fun _ _ _ h => h) (And.intro X_8.out (And.intro S_8.out (And.intro C_8.out Y_8.out))) (Or.inl ⟨by rfl, ?_⟩) ?_
    rotate_left
    · intro W hW
      go_simp
      try with_reducible rfl
    try simp only [List.getElem_toArray, List.getElem_cons_zero, List.getElem_cons_succ, Act.put, List.setIfInBounds_toArray, List.set_cons_zero, List.set_cons_succ]
    refine anyC_take (i := 11) (v := ?_) rfl (by kernel_rfl) (by kernel_rfl) (by kernel_rfl) (fun _ _ _ h => h) (And.intro X_8.out (And.intro S_8.out (And.intro C_8.out Y_8.out))) (Or.inl ⟨by rfl, ?_⟩) ?_
    rotate_left
    · intro W hW
      go_simp
      try with_reducible rfl
    try simp only [List.getElem_toArray, List.getElem_cons_zero, List.getElem_cons_succ, Act.put, List.setIfInBounds_toArray, List.set_cons_zero, List.set_cons_succ]
    refine anyC_done (by kernel_rfl) ?_ _
    obtain ⟨Ap, cp, rfl, hcp, hcp2⟩ := id G_8.out
    obtain ⟨Aq, cq, rfl, -, -⟩ := id Q_8.out
    rw [List.length_map] at hcp hcp2
    have y0 : w5.cell? ⟨w1.heap.size, 0, none⟩ = some (.int .i64 st) := Y_8.out.cell 0
    have HCn := Lib.hid (fun x => contains_any Q_8.out x (by have := HT2.out; omega))
    have hln : T1.length = T2.length := HL1.out.1
    simp only [List.length_map] at HCn ⊢
    rw [← hln] at HCn ⊢
    obtain ⟨m, hm⟩ : ∃ m, T1.length = m := ⟨_, rfl⟩
    have HM := Lib.hid (And.intro hm hcp2)
    have hmI : (m : Int) ≤ 1000 := by have := HT1.out; omega
    rw [hm] at HCn ⊢
    rw [hm] at hcp
    clear hln hm hcp2
    go_wp2_with fail
    go_loopw [72] (fun i wr => ∃ k : Nat, k ≤ m ∧ i = .int .i64 k ∧ wr = w5) (fun i _ => m - (intOf i).toNat)
    case atStart => exact ⟨0, Nat.zero_le _, rfl, rfl⟩
    case round =>
      obtain ⟨k, hk, rfl, rfl⟩ := hrel
      have hkI : (k : Int) ≤ m := by omega
      by_cases hlt : k < m
      · have hltI : (k : Int) < m := by omega
        have hkl : k < T1.length := by have := HM.out.1; omega
        obtain ⟨x, hxe⟩ : ∃ x, T1[k] = x := ⟨_, rfl⟩
        obtain ⟨g, o, rfl, -, hcl⟩ := HM.out.2 (by omega)
        have c0 : wr.cell? ⟨g, o + k, none⟩ = some (.int .i64 x) := hcl k _ (by rw [List.getElem?_map, List.getElem?_eq_getElem hkl, hxe]; rfl)
        have hxm : x ∈ T1 := by rw [← hxe]; exact List.getElem_mem _
        by_cases hgt : (st : Int) < x
        · have hgd : decide ((st : Int) < x) = true := decide_eq_true hgt
          have hno := HL1.out.2 x hxm hgt
          have HC1 := Lib.hid (HCn.out x)
          rw [hno] at HC1
          clear hcl hxe hxm hno
          go_wp2_with fail
          refine HC1.out.mono ?_
          rintro e w6 ⟨rfl, rfl⟩
          go_wp2_with fail
          go_roundw
          case rel => exact ⟨k + 1, by omega, by go_num, by first | trivial | rfl⟩
          case measure => simp [intOf]; omega
        · have hgd : decide ((st : Int) < x) = false := decide_eq_false hgt
          clear hcl hxe hxm
          go_wp2_with fail
          go_roundw
          case rel => exact ⟨k + 1, by omega, by go_num, by first | trivial | rfl⟩
          case measure => simp [intOf]; omega
      · obtain rfl : k = m := by omega
        go_wp2_with fail
        refine (HA.out _).mono ?_
        rintro e wz ⟨rfl, hbz⟩
        have B_9 := Lib.hid (B_8.out.trans (hbz.mono B_8.out.size))
        have X_9 := Lib.hid (X_8.out.below hbz X_8.out.lt)
        have S_9 := Lib.hid (S_8.out.below hbz S_8.out.lt)
        have C_9 := Lib.hid (C_8.out.below hbz C_8.out.lt)
        have R_9 := Lib.hid ((R_8.out.below hbz (Nat.le_refl _)).mono hbz.size)
        have Y_9 := Lib.hid (Y_8.out.below hbz Y_8.out.lt)
        have V_9 := Lib.hid ((V_8.out.below hbz (Nat.le_refl _)).mono hbz.size)
        have G_9 := Lib.hid ((G_8.out.below hbz (Nat.le_refl _)).mono hbz.size)
        have Q_9 := Lib.hid ((Q_8.out.below hbz (Nat.le_refl _)).mono hbz.size)
        clear B_8 X_8 S_8 C_8 R_8 Y_8 V_8 G_8 Q_8 hbz
        go_wp2_with fail
        go_ret
        exact ⟨rfl, B_9.out⟩

theorem planOwn_walk (a b p q : Nat) (tg mb : ByteArray) (kind items mode : Int) (sil : Bool) (fl : Int) (A D : Option Addr) (n cap nd cd : Nat) (l : List RB) (w : World) (ha : a < 256) (hb : b < 256) (hp : p < 256) (hq : q < 256) (hR : RgL w w.heap.size (.slice A n cap) (l.map RB.rng)) :
    Calls Tryz.prog 4 #[.agg #[.int .u8 a, .int .u8 b], .agg #[.int .u8 p, .int .u8 q], .agg #[.string tg, .int .i64 kind, .string mb, .slice A n cap, .int .i64 items, .int .i64 mode, .bool sil, .int .u8 fl, .slice D nd cd]] w fun e w' => e = .returned (.bool true) ∧ Below w.heap.size w w' := by
  by_cases hk1 : kind = 1
  · subst hk1
    cases hmk : marksB items with
    | true => exact own_marks1 a b p q tg mb items mode sil fl A D n cap nd cd l w ha hb hp hq hR hmk
    | false =>
      by_cases hsx : lSs b < 2
      · exact own_ss1 a b p q tg mb items mode sil fl A D n cap nd cd l w ha hb hp hq hR hmk hsx
      · cases hf : fewC tg mb n nd with
        | false => exact own_few a b p q tg mb 1 items mode sil fl A D n cap nd cd l w ha hb hp hq hR hf
        | true => exact own_main1 a b p q tg mb items mode sil fl A D n cap nd cd l w ha hb hp hq hR hf hmk hsx
  · by_cases hk7 : kind = 7
    · subst hk7
      cases hmk : marksB items with
      | true => exact own_marks7 a b p q tg mb items mode sil fl A D n cap nd cd l w ha hb hp hq hR hmk
      | false =>
        by_cases hsx : lSs b < 2
        · exact own_ss7 a b p q tg mb items mode sil fl A D n cap nd cd l w ha hb hp hq hR hmk hsx
        · cases hf : fewC tg mb n nd with
          | false => exact own_few a b p q tg mb 7 items mode sil fl A D n cap nd cd l w ha hb hp hq hR hf
          | true => exact own_main7 a b p q tg mb items mode sil fl A D n cap nd cd l w ha hb hp hq hR hf hmk hsx
    · exact own_kind a b p q tg mb kind items mode sil fl A D n cap nd cd l w ha hb hp hq hR hk1 hk7
end Go.Proofs.YtamholmjppgfiaaGreat
