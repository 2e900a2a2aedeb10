/- PlanStripes: the law's own walk. -/
import Derived.Test.YtamholmjppgfiaaGreatPlanF
set_option linter.unusedVariables false
set_option linter.unusedSimpArgs false
namespace Go.Proofs.YtamholmjppgfiaaGreat
open Go Go.RowKit Go.Shelf Go.Lib Go.Sort

theorem stripe_yes (st ss k : Int) (h : st ≤ 100) (hk : 0 ≤ k ∧ k < st) (w : World) : Calls Tryz.prog 17 #[.agg #[.int .i64 st, .int .i64 ss], .int .i64 k] w fun e w' => e = .returned (.tuple #[.int .i64 (1 + k), .bool true]) ∧ Below w.heap.size w w' := by
  obtain ⟨h3, h4⟩ := hk
  have hw : IntKind.i64.wrap (1 + k) = 1 + k := by simp [IntKind.wrap, IntKind.bits, IntKind.signed]; omega
  have hn1 : ¬ (k < 0) := by omega
  have hn2 : ¬ (st ≤ k) := by omega
  have hd1 : decide (k < 0) = false := decide_eq_false hn1
  have hd2 : decide (st ≤ k) = false := decide_eq_false hn2
  have hb0 : Below w.heap.size w (w.alloc (.cells #[.int .i64 st, .int .i64 ss] 34)) := (Below.refl _ w).alloc (Nat.le_refl _) _
  have HB := Lib.hid hb0
  clear hb0
  go_enter Tryz.func17, Tryz.ntmps17
  go_wp2_with fail
  go_ret2
  exact ⟨rfl, HB.out⟩
theorem stripes_law {st : Nat} (h0 : 0 < st) (us t : List Int) (ht : ∀ x ∈ t, (st : Int) < x) :
    (∀ k : Nat, k < st → ((stripeL st us).map (fun x => 1 + x) ++ t).contains (1 + (k : Int)) = decide (0 < (us.filter fun u => decide (u % (st : Int) = (k : Int))).length)) ∧ ((stripeL st us).map (fun x => 1 + x) ++ t).contains 0 = false := by
  constructor
  · intro k hk
    rw [Bool.eq_iff_iff]
    simp only [List.contains_iff_mem, List.mem_append, List.mem_map, decide_eq_true_eq]
    constructor
    · rintro (⟨x, hx, e⟩ | h)
      · obtain rfl : x = (k : Int) := by omega
        obtain ⟨u, hu, e⟩ := ((stripeL_spec st us).2 _).1 hx
        exact List.length_pos_of_mem (List.mem_filter.2 ⟨hu, by simpa using e⟩)
      · have := ht _ h; omega
    · intro h
      obtain ⟨u, hu⟩ := List.exists_mem_of_length_pos h
      rw [List.mem_filter, decide_eq_true_eq] at hu
      exact .inl ⟨k, ((stripeL_spec st us).2 _).2 ⟨u, hu.1, hu.2⟩, rfl⟩
  · rw [Bool.eq_false_iff]
    intro h
    simp only [List.contains_iff_mem, List.mem_append, List.mem_map] at h
    rcases h with ⟨x, hx, e⟩ | h
    · have := stripe_small h0 x hx; omega
    · have := ht _ h; omega
theorem ssFor_bad {st ss : Nat} {sid : Int} {vl : List Int} {kind : Int} (hk : kind = 7 ∨ kind = 8) {ib : Bool} {set : List Rng} {mk : Bool} (h : validB vl.length set = false ∨ ¬ (0 ≤ sid ∧ sid < (ss : Int))) : forL st ss sid (some vl) kind ib set mk = [] := by
  unfold forL
  by_cases hid : 0 ≤ sid ∧ sid < (ss : Int)
  · rw [if_pos hid]
    have hv := h.resolve_right (fun k => k hid)
    unfold planL msgL
    rcases hk with rfl | rfl <;> simp [hv]
  · rw [if_neg hid]
theorem ssFor_good {st ss : Nat} {sid : Int} (hid : 0 ≤ sid ∧ sid < (ss : Int)) {vl : List Int} {kind : Int} (hk : kind = 7 ∨ kind = 8) {ib : Bool} {set : List Rng} {mk : Bool} (hv : validB vl.length set = true) :
    ∃ t : List Int, (∀ x ∈ t, (st : Int) < x) ∧ forL st ss sid (some vl) kind ib set mk = (stripeL st (uidsOf vl set)).map (fun x => 1 + x) ++ t := by
  have hq : ∀ x ∈ queL (st : Int) (ss : Int), (st : Int) < x := fun x hx => by
    have := runL_mem.1 hx
    omega
  have ho : ∀ x ∈ ownL (st : Int) sid, (st : Int) < x := fun x hx => by
    have : x = 1 + (st : Int) + sid := by simpa [ownL] using hx
    omega
  unfold forL
  rw [if_pos hid]
  rcases hk with rfl | rfl
  · refine ⟨if mk then queL st ss else ownL st sid, by cases mk; exact ho; exact hq, ?_⟩
    unfold planL msgL
    simp [hv]
  · refine ⟨queL st ss, hq, ?_⟩
    unfold planL msgL
    simp [hv]

set_option maxRecDepth 100000 in
set_option maxHeartbeats 6400000 in
theorem ss_few (a b : Nat) (sid : Int) (sel : Bool) (us : List Int) (tg mb : ByteArray) (kind : Int) (items mode : Int) (sil : Bool) (fl : Int) (A D : Option Addr) (n cap nd cd : Nat) (l : List RB) (vu : Value) (w : World) (ha : a < 256) (hb : b < 256) (hU : U32 w w.heap.size vu us) (hR : RgL w w.heap.size (.slice A n cap) (l.map RB.rng)) (h0 : ∀ x ∈ us, 0 ≤ x ∧ x < 4294967296) (hfew : fewC tg mb n nd = false) :
    Calls Tryz.prog 5 #[.agg #[.int .u8 a, .int .u8 b], .agg #[.int .i64 sid, .bool sel, vu], .agg #[.string tg, .int .i64 kind, .string mb, .slice A n cap, .int .i64 items, .int .i64 mode, .bool sil, .int .u8 fl, .slice D nd cd]] w fun e w' => e = .returned (.bool true) ∧ Below w.heap.size w w' := by
  obtain ⟨Au, cu, rfl, hcu1, hcu2⟩ := id hU
  have hRn : n = l.length := by
    obtain ⟨A', c', he, -⟩ := hR
    injection he with h1 h2 h3
    rw [h2, List.length_map]
  have hb0 : Below w.heap.size w (w.alloc (.cells #[.int .u8 a, .int .u8 b] 22)) := (Below.refl _ w).alloc (Nat.le_refl _) _
  have hb1 := hb0.alloc hb0.size (.cells #[.int .i64 sid, .bool sel, .slice Au us.length cu] 25)
  have hb2 := hb1.alloc hb1.size (.cells #[.string tg, .int .i64 kind, .string mb, .slice A n cap, .int .i64 items, .int .i64 mode, .bool sil, .int .u8 fl, .slice D nd cd] 30)
  have kx := ((Blk.made w 22 #[.int .u8 a, .int .u8 b]).past (.cells #[.int .i64 sid, .bool sel, .slice Au us.length cu] 25)).past (.cells #[.string tg, .int .i64 kind, .string mb, .slice A n cap, .int .i64 items, .int .i64 mode, .bool sil, .int .u8 fl, .slice D nd cd] 30)
  have ks := (Blk.made (w.alloc (.cells #[.int .u8 a, .int .u8 b] 22)) 25 #[.int .i64 sid, .bool sel, .slice Au us.length cu]).past (.cells #[.string tg, .int .i64 kind, .string mb, .slice A n cap, .int .i64 items, .int .i64 mode, .bool sil, .int .u8 fl, .slice D nd cd] 30)
  have kc := Blk.made ((w.alloc (.cells #[.int .u8 a, .int .u8 b] 22)).alloc (.cells #[.int .i64 sid, .bool sel, .slice Au us.length cu] 25)) 30 #[.string tg, .int .i64 kind, .string mb, .slice A n cap, .int .i64 items, .int .i64 mode, .bool sil, .int .u8 fl, .slice D nd cd]
  rw [World.size_alloc] at ks
  rw [World.size_alloc, World.size_alloc] at kc
  have hlay := layout_any a b ha hb
  obtain ⟨st, hst⟩ : ∃ st, lSt a = st := ⟨_, rfl⟩
  obtain ⟨ss, hss⟩ : ∃ ss, lSs b = ss := ⟨_, rfl⟩
  have hs1 : 0 < st ∧ st ≤ 16 := hst ▸ lSt_pos a
  have hs2 : ss ≤ 16 := hss ▸ lSs_le b
  rw [hst, hss] at hlay
  have HY := Lib.hid hlay
  have HA := Lib.hid (fun W => alive_any W)
  have HF := Lib.hid (fun W => fewc_any tg mb kind items mode sil fl A D n cap nd cd W)
  obtain ⟨f, hf⟩ : ∃ f, fewC tg mb n nd = f := ⟨_, rfl⟩
  have hfl : f = true → mb.size ≤ 300 ∧ n ≤ 60 := fun h => by
    rw [h] at hf
    unfold fewC at hf
    simp only [Bool.and_eq_true, decide_eq_true_eq] at hf
    exact ⟨hf.2.1, hf.2.2.1⟩
  rw [hf] at HF
  rw [hf] at hfew
  subst hfew
  clear hf hst hss hlay
  have B_0 := Lib.hid hb2
  have X_0 := Lib.hid kx
  have S_0 := Lib.hid ks
  have C_0 := Lib.hid kc
  have U_0 := Lib.hid ((hU.below hb2 (Nat.le_refl _)).mono hb2.size)
  have R_0 := Lib.hid ((hR.below hb2 (Nat.le_refl _)).mono hb2.size)
  have HP := Lib.hid (And.intro h0 (And.intro hRn hfl))
  clear hb0 hb1 hb2 kx ks kc hU hR h0 hRn hfl hcu1 hcu2
  obtain ⟨m, hm⟩ : ∃ m, us.length = m := ⟨_, rfl⟩
  have HM := Lib.hid hm
  rw [hm] at B_0 X_0 S_0 C_0 U_0 R_0 ⊢
  clear hm
  go_enter Tryz.func5, Tryz.ntmps5
  go_wp2_with fail
  refine (HF.out _).mono ?_
  rintro e w1 ⟨rfl, hb1⟩
  have B_1 := Lib.hid (B_0.out.trans (hb1.mono B_0.out.size))
  have X_1 := Lib.hid (X_0.out.below hb1 X_0.out.lt)
  have S_1 := Lib.hid (S_0.out.below hb1 S_0.out.lt)
  have C_1 := Lib.hid (C_0.out.below hb1 C_0.out.lt)
  have U_1 := Lib.hid ((U_0.out.below hb1 (Nat.le_refl _)).mono hb1.size)
  have R_1 := Lib.hid ((R_0.out.below hb1 (Nat.le_refl _)).mono hb1.size)
  clear B_0 X_0 S_0 C_0 U_0 R_0 hb1
  have s1 : w1.cell? ⟨w.heap.size + 1, 1, none⟩ = some (.bool sel) := S_1.out.cell 1
  have s2 : w1.cell? ⟨w.heap.size + 1, 2, none⟩ = some (.slice Au m cu) := S_1.out.cell 2
  have c1 : w1.cell? ⟨w.heap.size + 1 + 1, 1, none⟩ = some (.int .i64 kind) := C_1.out.cell 1
  have c1b : w1.cell? ⟨w.heap.size + 2, 1, none⟩ = some (.int .i64 kind) := C_1.out.cell 1
  go_wp2_with fail
  refine (HA.out _).mono ?_
  rintro e wz ⟨rfl, hbz⟩
  have B_2 := Lib.hid (B_1.out.trans (hbz.mono B_1.out.size))
  have X_2 := Lib.hid (X_1.out.below hbz X_1.out.lt)
  have S_2 := Lib.hid (S_1.out.below hbz S_1.out.lt)
  have C_2 := Lib.hid (C_1.out.below hbz C_1.out.lt)
  have U_2 := Lib.hid ((U_1.out.below hbz (Nat.le_refl _)).mono hbz.size)
  have R_2 := Lib.hid ((R_1.out.below hbz (Nat.le_refl _)).mono hbz.size)
  clear B_1 X_1 S_1 C_1 U_1 R_1 hbz
  go_wp2_with fail
  go_ret
  exact ⟨rfl, B_2.out⟩

set_option maxRecDepth 100000 in
set_option maxHeartbeats 6400000 in
theorem ss_long (a b : Nat) (sid : Int) (sel : Bool) (us : List Int) (tg mb : ByteArray) (kind : Int) (items mode : Int) (sil : Bool) (fl : Int) (A D : Option Addr) (n cap nd cd : Nat) (l : List RB) (vu : Value) (w : World) (ha : a < 256) (hb : b < 256) (hU : U32 w w.heap.size vu us) (hR : RgL w w.heap.size (.slice A n cap) (l.map RB.rng)) (h0 : ∀ x ∈ us, 0 ≤ x ∧ x < 4294967296) (hlg : 60 < us.length) :
    Calls Tryz.prog 5 #[.agg #[.int .u8 a, .int .u8 b], .agg #[.int .i64 sid, .bool sel, vu], .agg #[.string tg, .int .i64 kind, .string mb, .slice A n cap, .int .i64 items, .int .i64 mode, .bool sil, .int .u8 fl, .slice D nd cd]] w fun e w' => e = .returned (.bool true) ∧ Below w.heap.size w w' := by
  obtain ⟨Au, cu, rfl, hcu1, hcu2⟩ := id hU
  have hRn : n = l.length := by
    obtain ⟨A', c', he, -⟩ := hR
    injection he with h1 h2 h3
    rw [h2, List.length_map]
  have hb0 : Below w.heap.size w (w.alloc (.cells #[.int .u8 a, .int .u8 b] 22)) := (Below.refl _ w).alloc (Nat.le_refl _) _
  have hb1 := hb0.alloc hb0.size (.cells #[.int .i64 sid, .bool sel, .slice Au us.length cu] 25)
  have hb2 := hb1.alloc hb1.size (.cells #[.string tg, .int .i64 kind, .string mb, .slice A n cap, .int .i64 items, .int .i64 mode, .bool sil, .int .u8 fl, .slice D nd cd] 30)
  have kx := ((Blk.made w 22 #[.int .u8 a, .int .u8 b]).past (.cells #[.int .i64 sid, .bool sel, .slice Au us.length cu] 25)).past (.cells #[.string tg, .int .i64 kind, .string mb, .slice A n cap, .int .i64 items, .int .i64 mode, .bool sil, .int .u8 fl, .slice D nd cd] 30)
  have ks := (Blk.made (w.alloc (.cells #[.int .u8 a, .int .u8 b] 22)) 25 #[.int .i64 sid, .bool sel, .slice Au us.length cu]).past (.cells #[.string tg, .int .i64 kind, .string mb, .slice A n cap, .int .i64 items, .int .i64 mode, .bool sil, .int .u8 fl, .slice D nd cd] 30)
  have kc := Blk.made ((w.alloc (.cells #[.int .u8 a, .int .u8 b] 22)).alloc (.cells #[.int .i64 sid, .bool sel, .slice Au us.length cu] 25)) 30 #[.string tg, .int .i64 kind, .string mb, .slice A n cap, .int .i64 items, .int .i64 mode, .bool sil, .int .u8 fl, .slice D nd cd]
  rw [World.size_alloc] at ks
  rw [World.size_alloc, World.size_alloc] at kc
  have hlay := layout_any a b ha hb
  obtain ⟨st, hst⟩ : ∃ st, lSt a = st := ⟨_, rfl⟩
  obtain ⟨ss, hss⟩ : ∃ ss, lSs b = ss := ⟨_, rfl⟩
  have hs1 : 0 < st ∧ st ≤ 16 := hst ▸ lSt_pos a
  have hs2 : ss ≤ 16 := hss ▸ lSs_le b
  rw [hst, hss] at hlay
  have HY := Lib.hid hlay
  have HA := Lib.hid (fun W => alive_any W)
  have HF := Lib.hid (fun W => fewc_any tg mb kind items mode sil fl A D n cap nd cd W)
  obtain ⟨f, hf⟩ : ∃ f, fewC tg mb n nd = f := ⟨_, rfl⟩
  have hfl : f = true → mb.size ≤ 300 ∧ n ≤ 60 := fun h => by
    rw [h] at hf
    unfold fewC at hf
    simp only [Bool.and_eq_true, decide_eq_true_eq] at hf
    exact ⟨hf.2.1, hf.2.2.1⟩
  rw [hf] at HF
  clear hf hst hss hlay
  have B_0 := Lib.hid hb2
  have X_0 := Lib.hid kx
  have S_0 := Lib.hid ks
  have C_0 := Lib.hid kc
  have U_0 := Lib.hid ((hU.below hb2 (Nat.le_refl _)).mono hb2.size)
  have R_0 := Lib.hid ((hR.below hb2 (Nat.le_refl _)).mono hb2.size)
  have HP := Lib.hid (And.intro h0 (And.intro hRn hfl))
  clear hb0 hb1 hb2 kx ks kc hU hR h0 hRn hfl hcu1 hcu2
  obtain ⟨m, hm⟩ : ∃ m, us.length = m := ⟨_, rfl⟩
  have HM := Lib.hid hm
  rw [hm] at B_0 X_0 S_0 C_0 U_0 R_0 ⊢
  clear hm
  have hlg1 : (60 : Int) < m := by have := HM.out; omega
  have hlg2 : decide ((60 : Int) < m) = true := decide_eq_true hlg1
  clear hlg
  cases f
  · go_enter Tryz.func5, Tryz.ntmps5
    go_wp2_with fail
    refine (HF.out _).mono ?_
    rintro e w1 ⟨rfl, hb1⟩
    have B_1 := Lib.hid (B_0.out.trans (hb1.mono B_0.out.size))
    have X_1 := Lib.hid (X_0.out.below hb1 X_0.out.lt)
    have S_1 := Lib.hid (S_0.out.below hb1 S_0.out.lt)
    have C_1 := Lib.hid (C_0.out.below hb1 C_0.out.lt)
    have U_1 := Lib.hid ((U_0.out.below hb1 (Nat.le_refl _)).mono hb1.size)
    have R_1 := Lib.hid ((R_0.out.below hb1 (Nat.le_refl _)).mono hb1.size)
    clear B_0 X_0 S_0 C_0 U_0 R_0 hb1
    have s1 : w1.cell? ⟨w.heap.size + 1, 1, none⟩ = some (.bool sel) := S_1.out.cell 1
    have s2 : w1.cell? ⟨w.heap.size + 1, 2, none⟩ = some (.slice Au m cu) := S_1.out.cell 2
    have c1 : w1.cell? ⟨w.heap.size + 1 + 1, 1, none⟩ = some (.int .i64 kind) := C_1.out.cell 1
    have c1b : w1.cell? ⟨w.heap.size + 2, 1, none⟩ = some (.int .i64 kind) := C_1.out.cell 1
    go_wp2_with fail
    refine (HA.out _).mono ?_
    rintro e wz ⟨rfl, hbz⟩
    have B_2 := Lib.hid (B_1.out.trans (hbz.mono B_1.out.size))
    have X_2 := Lib.hid (X_1.out.below hbz X_1.out.lt)
    have S_2 := Lib.hid (S_1.out.below hbz S_1.out.lt)
    have C_2 := Lib.hid (C_1.out.below hbz C_1.out.lt)
    have U_2 := Lib.hid ((U_1.out.below hbz (Nat.le_refl _)).mono hbz.size)
    have R_2 := Lib.hid ((R_1.out.below hbz (Nat.le_refl _)).mono hbz.size)
    clear B_1 X_1 S_1 C_1 U_1 R_1 hbz
    go_wp2_with fail
    go_ret
    exact ⟨rfl, B_2.out⟩
  · go_enter Tryz.func5, Tryz.ntmps5
    go_wp2_with fail
    refine (HF.out _).mono ?_
    rintro e w1 ⟨rfl, hb1⟩
    have B_1 := Lib.hid (B_0.out.trans (hb1.mono B_0.out.size))
    have X_1 := Lib.hid (X_0.out.below hb1 X_0.out.lt)
    have S_1 := Lib.hid (S_0.out.below hb1 S_0.out.lt)
    have C_1 := Lib.hid (C_0.out.below hb1 C_0.out.lt)
    have U_1 := Lib.hid ((U_0.out.below hb1 (Nat.le_refl _)).mono hb1.size)
    have R_1 := Lib.hid ((R_0.out.below hb1 (Nat.le_refl _)).mono hb1.size)
    clear B_0 X_0 S_0 C_0 U_0 R_0 hb1
    have s1 : w1.cell? ⟨w.heap.size + 1, 1, none⟩ = some (.bool sel) := S_1.out.cell 1
    have s2 : w1.cell? ⟨w.heap.size + 1, 2, none⟩ = some (.slice Au m cu) := S_1.out.cell 2
    have c1 : w1.cell? ⟨w.heap.size + 1 + 1, 1, none⟩ = some (.int .i64 kind) := C_1.out.cell 1
    have c1b : w1.cell? ⟨w.heap.size + 2, 1, none⟩ = some (.int .i64 kind) := C_1.out.cell 1
    go_wp2_with fail
    refine (HA.out _).mono ?_
    rintro e wz ⟨rfl, hbz⟩
    have B_2 := Lib.hid (B_1.out.trans (hbz.mono B_1.out.size))
    have X_2 := Lib.hid (X_1.out.below hbz X_1.out.lt)
    have S_2 := Lib.hid (S_1.out.below hbz S_1.out.lt)
    have C_2 := Lib.hid (C_1.out.below hbz C_1.out.lt)
    have U_2 := Lib.hid ((U_1.out.below hbz (Nat.le_refl _)).mono hbz.size)
    have R_2 := Lib.hid ((R_1.out.below hbz (Nat.le_refl _)).mono hbz.size)
    clear B_1 X_1 S_1 C_1 U_1 R_1 hbz
    go_wp2_with fail
    go_ret
    exact ⟨rfl, B_2.out⟩

set_option maxRecDepth 100000 in
set_option maxHeartbeats 6400000 in
theorem ss_kind (a b : Nat) (sid : Int) (sel : Bool) (us : List Int) (tg mb : ByteArray) (kind : Int) (items mode : Int) (sil : Bool) (fl : Int) (A D : Option Addr) (n cap nd cd : Nat) (l : List RB) (vu : Value) (w : World) (ha : a < 256) (hb : b < 256) (hU : U32 w w.heap.size vu us) (hR : RgL w w.heap.size (.slice A n cap) (l.map RB.rng)) (h0 : ∀ x ∈ us, 0 ≤ x ∧ x < 4294967296) (hlg : ¬ 60 < us.length) (hk7 : ¬ (kind = 7)) (hk8 : ¬ (kind = 8)) :
    Calls Tryz.prog 5 #[.agg #[.int .u8 a, .int .u8 b], .agg #[.int .i64 sid, .bool sel, vu], .agg #[.string tg, .int .i64 kind, .string mb, .slice A n cap, .int .i64 items, .int .i64 mode, .bool sil, .int .u8 fl, .slice D nd cd]] w fun e w' => e = .returned (.bool true) ∧ Below w.heap.size w w' := by
  obtain ⟨Au, cu, rfl, hcu1, hcu2⟩ := id hU
  have hRn : n = l.length := by
    obtain ⟨A', c', he, -⟩ := hR
    injection he with h1 h2 h3
    rw [h2, List.length_map]
  have hb0 : Below w.heap.size w (w.alloc (.cells #[.int .u8 a, .int .u8 b] 22)) := (Below.refl _ w).alloc (Nat.le_refl _) _
  have hb1 := hb0.alloc hb0.size (.cells #[.int .i64 sid, .bool sel, .slice Au us.length cu] 25)
  have hb2 := hb1.alloc hb1.size (.cells #[.string tg, .int .i64 kind, .string mb, .slice A n cap, .int .i64 items, .int .i64 mode, .bool sil, .int .u8 fl, .slice D nd cd] 30)
  have kx := ((Blk.made w 22 #[.int .u8 a, .int .u8 b]).past (.cells #[.int .i64 sid, .bool sel, .slice Au us.length cu] 25)).past (.cells #[.string tg, .int .i64 kind, .string mb, .slice A n cap, .int .i64 items, .int .i64 mode, .bool sil, .int .u8 fl, .slice D nd cd] 30)
  have ks := (Blk.made (w.alloc (.cells #[.int .u8 a, .int .u8 b] 22)) 25 #[.int .i64 sid, .bool sel, .slice Au us.length cu]).past (.cells #[.string tg, .int .i64 kind, .string mb, .slice A n cap, .int .i64 items, .int .i64 mode, .bool sil, .int .u8 fl, .slice D nd cd] 30)
  have kc := Blk.made ((w.alloc (.cells #[.int .u8 a, .int .u8 b] 22)).alloc (.cells #[.int .i64 sid, .bool sel, .slice Au us.length cu] 25)) 30 #[.string tg, .int .i64 kind, .string mb, .slice A n cap, .int .i64 items, .int .i64 mode, .bool sil, .int .u8 fl, .slice D nd cd]
  rw [World.size_alloc] at ks
  rw [World.size_alloc, World.size_alloc] at kc
  have hlay := layout_any a b ha hb
  obtain ⟨st, hst⟩ : ∃ st, lSt a = st := ⟨_, rfl⟩
  obtain ⟨ss, hss⟩ : ∃ ss, lSs b = ss := ⟨_, rfl⟩
  have hs1 : 0 < st ∧ st ≤ 16 := hst ▸ lSt_pos a
  have hs2 : ss ≤ 16 := hss ▸ lSs_le b
  rw [hst, hss] at hlay
  have HY := Lib.hid hlay
  have HA := Lib.hid (fun W => alive_any W)
  have HF := Lib.hid (fun W => fewc_any tg mb kind items mode sil fl A D n cap nd cd W)
  obtain ⟨f, hf⟩ : ∃ f, fewC tg mb n nd = f := ⟨_, rfl⟩
  have hfl : f = true → mb.size ≤ 300 ∧ n ≤ 60 := fun h => by
    rw [h] at hf
    unfold fewC at hf
    simp only [Bool.and_eq_true, decide_eq_true_eq] at hf
    exact ⟨hf.2.1, hf.2.2.1⟩
  rw [hf] at HF
  clear hf hst hss hlay
  have B_0 := Lib.hid hb2
  have X_0 := Lib.hid kx
  have S_0 := Lib.hid ks
  have C_0 := Lib.hid kc
  have U_0 := Lib.hid ((hU.below hb2 (Nat.le_refl _)).mono hb2.size)
  have R_0 := Lib.hid ((hR.below hb2 (Nat.le_refl _)).mono hb2.size)
  have HP := Lib.hid (And.intro h0 (And.intro hRn hfl))
  clear hb0 hb1 hb2 kx ks kc hU hR h0 hRn hfl hcu1 hcu2
  obtain ⟨m, hm⟩ : ∃ m, us.length = m := ⟨_, rfl⟩
  have HM := Lib.hid hm
  rw [hm] at B_0 X_0 S_0 C_0 U_0 R_0 ⊢
  clear hm
  have hlg1 : ¬ ((60 : Int) < m) := by have := HM.out; omega
  have hlg2 : decide ((60 : Int) < m) = false := decide_eq_false hlg1
  have hk1b : (kind == 7) = false := by simpa using hk7
  have hk7b : (kind == 8) = false := by simpa using hk8
  have hk1n : (kind != 7) = true := by simpa using hk7
  have hk7n : (kind != 8) = true := by simpa using hk8
  clear hlg
  cases f
  · go_enter Tryz.func5, Tryz.ntmps5
    go_wp2_with fail
    refine (HF.out _).mono ?_
    rintro e w1 ⟨rfl, hb1⟩
    have B_1 := Lib.hid (B_0.out.trans (hb1.mono B_0.out.size))
    have X_1 := Lib.hid (X_0.out.below hb1 X_0.out.lt)
    have S_1 := Lib.hid (S_0.out.below hb1 S_0.out.lt)
    have C_1 := Lib.hid (C_0.out.below hb1 C_0.out.lt)
    have U_1 := Lib.hid ((U_0.out.below hb1 (Nat.le_refl _)).mono hb1.size)
    have R_1 := Lib.hid ((R_0.out.below hb1 (Nat.le_refl _)).mono hb1.size)
    clear B_0 X_0 S_0 C_0 U_0 R_0 hb1
    have s1 : w1.cell? ⟨w.heap.size + 1, 1, none⟩ = some (.bool sel) := S_1.out.cell 1
    have s2 : w1.cell? ⟨w.heap.size + 1, 2, none⟩ = some (.slice Au m cu) := S_1.out.cell 2
    have c1 : w1.cell? ⟨w.heap.size + 1 + 1, 1, none⟩ = some (.int .i64 kind) := C_1.out.cell 1
    have c1b : w1.cell? ⟨w.heap.size + 2, 1, none⟩ = some (.int .i64 kind) := C_1.out.cell 1
    go_wp2_with fail
    refine (HA.out _).mono ?_
    rintro e wz ⟨rfl, hbz⟩
    have B_2 := Lib.hid (B_1.out.trans (hbz.mono B_1.out.size))
    have X_2 := Lib.hid (X_1.out.below hbz X_1.out.lt)
    have S_2 := Lib.hid (S_1.out.below hbz S_1.out.lt)
    have C_2 := Lib.hid (C_1.out.below hbz C_1.out.lt)
    have U_2 := Lib.hid ((U_1.out.below hbz (Nat.le_refl _)).mono hbz.size)
    have R_2 := Lib.hid ((R_1.out.below hbz (Nat.le_refl _)).mono hbz.size)
    clear B_1 X_1 S_1 C_1 U_1 R_1 hbz
    go_wp2_with fail
    go_ret
    exact ⟨rfl, B_2.out⟩
  · go_enter Tryz.func5, Tryz.ntmps5
    go_wp2_with fail
    refine (HF.out _).mono ?_
    rintro e w1 ⟨rfl, hb1⟩
    have B_1 := Lib.hid (B_0.out.trans (hb1.mono B_0.out.size))
    have X_1 := Lib.hid (X_0.out.below hb1 X_0.out.lt)
    have S_1 := Lib.hid (S_0.out.below hb1 S_0.out.lt)
    have C_1 := Lib.hid (C_0.out.below hb1 C_0.out.lt)
    have U_1 := Lib.hid ((U_0.out.below hb1 (Nat.le_refl _)).mono hb1.size)
    have R_1 := Lib.hid ((R_0.out.below hb1 (Nat.le_refl _)).mono hb1.size)
    clear B_0 X_0 S_0 C_0 U_0 R_0 hb1
    have s1 : w1.cell? ⟨w.heap.size + 1, 1, none⟩ = some (.bool sel) := S_1.out.cell 1
    have s2 : w1.cell? ⟨w.heap.size + 1, 2, none⟩ = some (.slice Au m cu) := S_1.out.cell 2
    have c1 : w1.cell? ⟨w.heap.size + 1 + 1, 1, none⟩ = some (.int .i64 kind) := C_1.out.cell 1
    have c1b : w1.cell? ⟨w.heap.size + 2, 1, none⟩ = some (.int .i64 kind) := C_1.out.cell 1
    go_wp2_with fail
    refine (HA.out _).mono ?_
    rintro e wz ⟨rfl, hbz⟩
    have B_2 := Lib.hid (B_1.out.trans (hbz.mono B_1.out.size))
    have X_2 := Lib.hid (X_1.out.below hbz X_1.out.lt)
    have S_2 := Lib.hid (S_1.out.below hbz S_1.out.lt)
    have C_2 := Lib.hid (C_1.out.below hbz C_1.out.lt)
    have U_2 := Lib.hid ((U_1.out.below hbz (Nat.le_refl _)).mono hbz.size)
    have R_2 := Lib.hid ((R_1.out.below hbz (Nat.le_refl _)).mono hbz.size)
    clear B_1 X_1 S_1 C_1 U_1 R_1 hbz
    go_wp2_with fail
    go_ret
    exact ⟨rfl, B_2.out⟩

set_option maxRecDepth 100000 in
set_option maxHeartbeats 6400000 in
theorem ss_unsel7 (a b : Nat) (sid : Int) (us : List Int) (tg mb : ByteArray) (items mode : Int) (sil : Bool) (fl : Int) (A D : Option Addr) (n cap nd cd : Nat) (l : List RB) (vu : Value) (w : World) (ha : a < 256) (hb : b < 256) (hU : U32 w w.heap.size vu us) (hR : RgL w w.heap.size (.slice A n cap) (l.map RB.rng)) (h0 : ∀ x ∈ us, 0 ≤ x ∧ x < 4294967296) (hlg : ¬ 60 < us.length) :
    Calls Tryz.prog 5 #[.agg #[.int .u8 a, .int .u8 b], .agg #[.int .i64 sid, .bool false, vu], .agg #[.string tg, .int .i64 7, .string mb, .slice A n cap, .int .i64 items, .int .i64 mode, .bool sil, .int .u8 fl, .slice D nd cd]] w fun e w' => e = .returned (.bool true) ∧ Below w.heap.size w w' := by
  obtain ⟨Au, cu, rfl, hcu1, hcu2⟩ := id hU
  have hRn : n = l.length := by
    obtain ⟨A', c', he, -⟩ := hR
    injection he with h1 h2 h3
    rw [h2, List.length_map]
  have hb0 : Below w.heap.size w (w.alloc (.cells #[.int .u8 a, .int .u8 b] 22)) := (Below.refl _ w).alloc (Nat.le_refl _) _
  have hb1 := hb0.alloc hb0.size (.cells #[.int .i64 sid, .bool false, .slice Au us.length cu] 25)
  have hb2 := hb1.alloc hb1.size (.cells #[.string tg, .int .i64 7, .string mb, .slice A n cap, .int .i64 items, .int .i64 mode, .bool sil, .int .u8 fl, .slice D nd cd] 30)
  have kx := ((Blk.made w 22 #[.int .u8 a, .int .u8 b]).past (.cells #[.int .i64 sid, .bool false, .slice Au us.length cu] 25)).past (.cells #[.string tg, .int .i64 7, .string mb, .slice A n cap, .int .i64 items, .int .i64 mode, .bool sil, .int .u8 fl, .slice D nd cd] 30)
  have ks := (Blk.made (w.alloc (.cells #[.int .u8 a, .int .u8 b] 22)) 25 #[.int .i64 sid, .bool false, .slice Au us.length cu]).past (.cells #[.string tg, .int .i64 7, .string mb, .slice A n cap, .int .i64 items, .int .i64 mode, .bool sil, .int .u8 fl, .slice D nd cd] 30)
  have kc := Blk.made ((w.alloc (.cells #[.int .u8 a, .int .u8 b] 22)).alloc (.cells #[.int .i64 sid, .bool false, .slice Au us.length cu] 25)) 30 #[.string tg, .int .i64 7, .string mb, .slice A n cap, .int .i64 items, .int .i64 mode, .bool sil, .int .u8 fl, .slice D nd cd]
  rw [World.size_alloc] at ks
  rw [World.size_alloc, World.size_alloc] at kc
  have hlay := layout_any a b ha hb
  obtain ⟨st, hst⟩ : ∃ st, lSt a = st := ⟨_, rfl⟩
  obtain ⟨ss, hss⟩ : ∃ ss, lSs b = ss := ⟨_, rfl⟩
  have hs1 : 0 < st ∧ st ≤ 16 := hst ▸ lSt_pos a
  have hs2 : ss ≤ 16 := hss ▸ lSs_le b
  rw [hst, hss] at hlay
  have HY := Lib.hid hlay
  have HA := Lib.hid (fun W => alive_any W)
  have HF := Lib.hid (fun W => fewc_any tg mb 7 items mode sil fl A D n cap nd cd W)
  obtain ⟨f, hf⟩ : ∃ f, fewC tg mb n nd = f := ⟨_, rfl⟩
  have hfl : f = true → mb.size ≤ 300 ∧ n ≤ 60 := fun h => by
    rw [h] at hf
    unfold fewC at hf
    simp only [Bool.and_eq_true, decide_eq_true_eq] at hf
    exact ⟨hf.2.1, hf.2.2.1⟩
  rw [hf] at HF
  clear hf hst hss hlay
  have B_0 := Lib.hid hb2
  have X_0 := Lib.hid kx
  have S_0 := Lib.hid ks
  have C_0 := Lib.hid kc
  have U_0 := Lib.hid ((hU.below hb2 (Nat.le_refl _)).mono hb2.size)
  have R_0 := Lib.hid ((hR.below hb2 (Nat.le_refl _)).mono hb2.size)
  have HP := Lib.hid (And.intro h0 (And.intro hRn hfl))
  clear hb0 hb1 hb2 kx ks kc hU hR h0 hRn hfl hcu1 hcu2
  obtain ⟨m, hm⟩ : ∃ m, us.length = m := ⟨_, rfl⟩
  have HM := Lib.hid hm
  rw [hm] at B_0 X_0 S_0 C_0 U_0 R_0 ⊢
  clear hm
  have hlg1 : ¬ ((60 : Int) < m) := by have := HM.out; omega
  have hlg2 : decide ((60 : Int) < m) = false := decide_eq_false hlg1
  clear hlg
  cases f
  · go_enter Tryz.func5, Tryz.ntmps5
    go_wp2_with fail
    refine (HF.out _).mono ?_
    rintro e w1 ⟨rfl, hb1⟩
    have B_1 := Lib.hid (B_0.out.trans (hb1.mono B_0.out.size))
    have X_1 := Lib.hid (X_0.out.below hb1 X_0.out.lt)
    have S_1 := Lib.hid (S_0.out.below hb1 S_0.out.lt)
    have C_1 := Lib.hid (C_0.out.below hb1 C_0.out.lt)
    have U_1 := Lib.hid ((U_0.out.below hb1 (Nat.le_refl _)).mono hb1.size)
    have R_1 := Lib.hid ((R_0.out.below hb1 (Nat.le_refl _)).mono hb1.size)
    clear B_0 X_0 S_0 C_0 U_0 R_0 hb1
    have s1 : w1.cell? ⟨w.heap.size + 1, 1, none⟩ = some (.bool false) := S_1.out.cell 1
    have s2 : w1.cell? ⟨w.heap.size + 1, 2, none⟩ = some (.slice Au m cu) := S_1.out.cell 2
    have c1 : w1.cell? ⟨w.heap.size + 1 + 1, 1, none⟩ = some (.int .i64 7) := C_1.out.cell 1
    have c1b : w1.cell? ⟨w.heap.size + 2, 1, none⟩ = some (.int .i64 7) := C_1.out.cell 1
    go_wp2_with fail
    refine (HA.out _).mono ?_
    rintro e wz ⟨rfl, hbz⟩
    have B_2 := Lib.hid (B_1.out.trans (hbz.mono B_1.out.size))
    have X_2 := Lib.hid (X_1.out.below hbz X_1.out.lt)
    have S_2 := Lib.hid (S_1.out.below hbz S_1.out.lt)
    have C_2 := Lib.hid (C_1.out.below hbz C_1.out.lt)
    have U_2 := Lib.hid ((U_1.out.below hbz (Nat.le_refl _)).mono hbz.size)
    have R_2 := Lib.hid ((R_1.out.below hbz (Nat.le_refl _)).mono hbz.size)
    clear B_1 X_1 S_1 C_1 U_1 R_1 hbz
    go_wp2_with fail
    go_ret
    exact ⟨rfl, B_2.out⟩
  · go_enter Tryz.func5, Tryz.ntmps5
    go_wp2_with fail
    refine (HF.out _).mono ?_
    rintro e w1 ⟨rfl, hb1⟩
    have B_1 := Lib.hid (B_0.out.trans (hb1.mono B_0.out.size))
    have X_1 := Lib.hid (X_0.out.below hb1 X_0.out.lt)
    have S_1 := Lib.hid (S_0.out.below hb1 S_0.out.lt)
    have C_1 := Lib.hid (C_0.out.below hb1 C_0.out.lt)
    have U_1 := Lib.hid ((U_0.out.below hb1 (Nat.le_refl _)).mono hb1.size)
    have R_1 := Lib.hid ((R_0.out.below hb1 (Nat.le_refl _)).mono hb1.size)
    clear B_0 X_0 S_0 C_0 U_0 R_0 hb1
    have s1 : w1.cell? ⟨w.heap.size + 1, 1, none⟩ = some (.bool false) := S_1.out.cell 1
    have s2 : w1.cell? ⟨w.heap.size + 1, 2, none⟩ = some (.slice Au m cu) := S_1.out.cell 2
    have c1 : w1.cell? ⟨w.heap.size + 1 + 1, 1, none⟩ = some (.int .i64 7) := C_1.out.cell 1
    have c1b : w1.cell? ⟨w.heap.size + 2, 1, none⟩ = some (.int .i64 7) := C_1.out.cell 1
    go_wp2_with fail
    refine (HA.out _).mono ?_
    rintro e wz ⟨rfl, hbz⟩
    have B_2 := Lib.hid (B_1.out.trans (hbz.mono B_1.out.size))
    have X_2 := Lib.hid (X_1.out.below hbz X_1.out.lt)
    have S_2 := Lib.hid (S_1.out.below hbz S_1.out.lt)
    have C_2 := Lib.hid (C_1.out.below hbz C_1.out.lt)
    have U_2 := Lib.hid ((U_1.out.below hbz (Nat.le_refl _)).mono hbz.size)
    have R_2 := Lib.hid ((R_1.out.below hbz (Nat.le_refl _)).mono hbz.size)
    clear B_1 X_1 S_1 C_1 U_1 R_1 hbz
    go_wp2_with fail
    go_ret
    exact ⟨rfl, B_2.out⟩

set_option maxRecDepth 100000 in
set_option maxHeartbeats 6400000 in
theorem ss_main7 (a b : Nat) (sid : Int) (us : List Int) (tg mb : ByteArray) (items mode : Int) (sil : Bool) (fl : Int) (A D : Option Addr) (n cap nd cd : Nat) (l : List RB) (vu : Value) (w : World) (ha : a < 256) (hb : b < 256) (hU : U32 w w.heap.size vu us) (hR : RgL w w.heap.size (.slice A n cap) (l.map RB.rng)) (h0 : ∀ x ∈ us, 0 ≤ x ∧ x < 4294967296) (hfew : fewC tg mb n nd = true) (hlg : ¬ 60 < us.length) :
    Calls Tryz.prog 5 #[.agg #[.int .u8 a, .int .u8 b], .agg #[.int .i64 sid, .bool true, vu], .agg #[.string tg, .int .i64 7, .string mb, .slice A n cap, .int .i64 items, .int .i64 mode, .bool sil, .int .u8 fl, .slice D nd cd]] w fun e w' => e = .returned (.bool true) ∧ Below w.heap.size w w' := by
  obtain ⟨Au, cu, rfl, hcu1, hcu2⟩ := id hU
  have hRn : n = l.length := by
    obtain ⟨A', c', he, -⟩ := hR
    injection he with h1 h2 h3
    rw [h2, List.length_map]
  have hb0 : Below w.heap.size w (w.alloc (.cells #[.int .u8 a, .int .u8 b] 22)) := (Below.refl _ w).alloc (Nat.le_refl _) _
  have hb1 := hb0.alloc hb0.size (.cells #[.int .i64 sid, .bool true, .slice Au us.length cu] 25)
  have hb2 := hb1.alloc hb1.size (.cells #[.string tg, .int .i64 7, .string mb, .slice A n cap, .int .i64 items, .int .i64 mode, .bool sil, .int .u8 fl, .slice D nd cd] 30)
  have kx := ((Blk.made w 22 #[.int .u8 a, .int .u8 b]).past (.cells #[.int .i64 sid, .bool true, .slice Au us.length cu] 25)).past (.cells #[.string tg, .int .i64 7, .string mb, .slice A n cap, .int .i64 items, .int .i64 mode, .bool sil, .int .u8 fl, .slice D nd cd] 30)
  have ks := (Blk.made (w.alloc (.cells #[.int .u8 a, .int .u8 b] 22)) 25 #[.int .i64 sid, .bool true, .slice Au us.length cu]).past (.cells #[.string tg, .int .i64 7, .string mb, .slice A n cap, .int .i64 items, .int .i64 mode, .bool sil, .int .u8 fl, .slice D nd cd] 30)
  have kc := Blk.made ((w.alloc (.cells #[.int .u8 a, .int .u8 b] 22)).alloc (.cells #[.int .i64 sid, .bool true, .slice Au us.length cu] 25)) 30 #[.string tg, .int .i64 7, .string mb, .slice A n cap, .int .i64 items, .int .i64 mode, .bool sil, .int .u8 fl, .slice D nd cd]
  rw [World.size_alloc] at ks
  rw [World.size_alloc, World.size_alloc] at kc
  have hlay := layout_any a b ha hb
  obtain ⟨st, hst⟩ : ∃ st, lSt a = st := ⟨_, rfl⟩
  obtain ⟨ss, hss⟩ : ∃ ss, lSs b = ss := ⟨_, rfl⟩
  have hs1 : 0 < st ∧ st ≤ 16 := hst ▸ lSt_pos a
  have hs2 : ss ≤ 16 := hss ▸ lSs_le b
  rw [hst, hss] at hlay
  have HY := Lib.hid hlay
  have HA := Lib.hid (fun W => alive_any W)
  have HF := Lib.hid (fun W => fewc_any tg mb 7 items mode sil fl A D n cap nd cd W)
  obtain ⟨f, hf⟩ : ∃ f, fewC tg mb n nd = f := ⟨_, rfl⟩
  have hfl : f = true → mb.size ≤ 300 ∧ n ≤ 60 := fun h => by
    rw [h] at hf
    unfold fewC at hf
    simp only [Bool.and_eq_true, decide_eq_true_eq] at hf
    exact ⟨hf.2.1, hf.2.2.1⟩
  rw [hf] at HF
  rw [hf] at hfew
  subst hfew
  clear hf hst hss hlay
  have B_0 := Lib.hid hb2
  have X_0 := Lib.hid kx
  have S_0 := Lib.hid ks
  have C_0 := Lib.hid kc
  have U_0 := Lib.hid ((hU.below hb2 (Nat.le_refl _)).mono hb2.size)
  have R_0 := Lib.hid ((hR.below hb2 (Nat.le_refl _)).mono hb2.size)
  have HP := Lib.hid (And.intro h0 (And.intro hRn hfl))
  clear hb0 hb1 hb2 kx ks kc hU hR h0 hRn hfl hcu1 hcu2
  obtain ⟨m, hm⟩ : ∃ m, us.length = m := ⟨_, rfl⟩
  have HM := Lib.hid hm
  rw [hm] at B_0 X_0 S_0 C_0 U_0 R_0 ⊢
  clear hm
  have hlg1 : ¬ ((60 : Int) < m) := by have := HM.out; omega
  have hlg2 : decide ((60 : Int) < m) = false := decide_eq_false hlg1
  have hul : us.length ≤ 60 := by omega
  have hsr : (srtU us).length ≤ 60 := Nat.le_trans (srtU_len us) hul
  have HFr := Lib.hid (fun (p : Option Addr) (hp : p.isSome = true) W (hV : VwR W W.heap.size p (srtU us)) (hR : RgL W W.heap.size (.slice A n cap) (l.map RB.rng)) => planfor_any st ss (by omega) (by omega) hs1.1 sid p true hp (srtU us) l tg mb 7 items mode sil fl A D n cap nd cd (HP.out.2.2 rfl).1 W hV hR hsr (by have := HP.out.2.1; have := (HP.out.2.2 rfl).2; omega) (fun x hx => HP.out.1 x (srtU_mem.1 hx).1))
  have HLk := Lib.hid (fun W (hU : U32 W W.heap.size (.slice Au m cu) us) => look_any us sid true (.slice Au m cu) W hU hul (fun x hx => (HP.out.1 x hx).1))
  have HNw := Lib.hid (fun W (hU : U32 W W.heap.size (.slice Au m cu) us) => rnew_any us (.slice Au m cu) W hU (by omega))
  have HUi := Lib.hid (fun vv W (hV : U32 W W.heap.size vv (srtU us)) (hR : RgL W W.heap.size (.slice A n cap) (l.map RB.rng)) => ref_uids (srtU us) vv (l.map RB.rng) (.slice A n cap) W hV hR (by omega) (by rw [List.length_map]; have := HP.out.2.1; have := (HP.out.2.2 rfl).2; omega))
  have HTl : Hid ((forL st ss sid (some (srtU us)) 7 (inboxB mb) (l.map RB.rng) (marksB items)).length ≤ 1000) := Lib.hid (forL_len (by omega) (by omega) (fun vl h => by injection h with h; rw [← h]; exact hsr))
  have HUl : Hid ((uidsOf (srtU us) (l.map RB.rng)).length ≤ 60) := Lib.hid (Nat.le_trans uids_le hsr)
  have HUb := Lib.hid (uids_in (vl := srtU us) (l := l.map RB.rng) (fun x hx => HP.out.1 x (srtU_mem.1 hx).1))
  have HSt := Lib.hid (fun (k : Nat) W (hk : k < st) => stripe_yes st ss k (by omega) (by omega) W)
  have HIn := Lib.hid (fun (t : Int) v W (hU : U32 W W.heap.size v (uidsOf (srtU us) (l.map RB.rng))) => in_any st hs1.1 (by omega) t (uidsOf (srtU us) (l.map RB.rng)) v W hU (by have := HUl.out; omega) HUb.out)
  have HSL := Lib.hid (fun (us t : List Int) (ht : ∀ x ∈ t, (st : Int) < x) => stripes_law hs1.1 us t ht)
  have HBad := Lib.hid (fun h => ssFor_bad (st := st) (ss := ss) (sid := sid) (vl := srtU us) (show ((7 : Int) = 7 ∨ (7 : Int) = 8) by decide) (ib := inboxB mb) (set := l.map RB.rng) (mk := marksB items) h)
  have HGood := Lib.hid (fun hid hv => ssFor_good (st := st) (ss := ss) (sid := sid) hid (vl := srtU us) (show ((7 : Int) = 7 ∨ (7 : Int) = 8) by decide) (ib := inboxB mb) (set := l.map RB.rng) (mk := marksB items) hv)
  obtain ⟨T, hT⟩ : ∃ T, forL st ss sid (some (srtU us)) 7 (inboxB mb) (l.map RB.rng) (marksB items) = T := ⟨_, rfl⟩
  simp only [if_true] at HFr HLk
  rw [hT] at HFr HTl HBad HGood
  obtain ⟨ok, hok⟩ : ∃ ok, validB (srtU us).length (l.map RB.rng) = ok := ⟨_, rfl⟩
  rw [hok] at HUi HBad HGood
  obtain ⟨uu, huu⟩ : ∃ uu, uidsOf (srtU us) (l.map RB.rng) = uu := ⟨_, rfl⟩
  rw [huu] at HUi HUl HIn HGood
  have hstI : (st : Int) ≤ 16 := by omega
  have hst0 : 0 < (st : Int) := by omega
  clear hT hok huu HUb hul hsr hlg hs2
  go_enter Tryz.func5, Tryz.ntmps5
  go_wp2_with fail
  refine (HF.out _).mono ?_
  rintro e w1 ⟨rfl, hb1⟩
  have B_1 := Lib.hid (B_0.out.trans (hb1.mono B_0.out.size))
  have X_1 := Lib.hid (X_0.out.below hb1 X_0.out.lt)
  have S_1 := Lib.hid (S_0.out.below hb1 S_0.out.lt)
  have C_1 := Lib.hid (C_0.out.below hb1 C_0.out.lt)
  have U_1 := Lib.hid ((U_0.out.below hb1 (Nat.le_refl _)).mono hb1.size)
  have R_1 := Lib.hid ((R_0.out.below hb1 (Nat.le_refl _)).mono hb1.size)
  clear B_0 X_0 S_0 C_0 U_0 R_0 hb1
  have s1 : w1.cell? ⟨w.heap.size + 1, 1, none⟩ = some (.bool true) := S_1.out.cell 1
  have s2 : w1.cell? ⟨w.heap.size + 1, 2, none⟩ = some (.slice Au m cu) := S_1.out.cell 2
  have c1 : w1.cell? ⟨w.heap.size + 1 + 1, 1, none⟩ = some (.int .i64 7) := C_1.out.cell 1
  have c1b : w1.cell? ⟨w.heap.size + 2, 1, none⟩ = some (.int .i64 7) := C_1.out.cell 1
  have x0 : w1.cell? ⟨w.heap.size, 0, none⟩ = some (.int .u8 a) := X_1.out.cell 0
  have x1 : w1.cell? ⟨w.heap.size, 1, none⟩ = some (.int .u8 b) := X_1.out.cell 1
  go_wp2_with fail
  refine (HY.out _).mono ?_
  rintro e w2 ⟨rfl, hb2⟩
  have B_2 := Lib.hid (B_1.out.trans (hb2.mono B_1.out.size))
  have X_2 := Lib.hid (X_1.out.below hb2 X_1.out.lt)
  have S_2 := Lib.hid (S_1.out.below hb2 S_1.out.lt)
  have C_2 := Lib.hid (C_1.out.below hb2 C_1.out.lt)
  have U_2 := Lib.hid ((U_1.out.below hb2 (Nat.le_refl _)).mono hb2.size)
  have R_2 := Lib.hid ((R_1.out.below hb2 (Nat.le_refl _)).mono hb2.size)
  clear B_1 X_1 S_1 C_1 U_1 R_1 hb2 s1 s2 c1 c1b x0 x1
  have hbl : Below w2.heap.size w2 (w2.alloc (.cells #[.int .i64 st, .int .i64 ss] 34)) := (Below.refl _ _).alloc (Nat.le_refl _) _
  have B_3 := Lib.hid (B_2.out.trans (hbl.mono B_2.out.size))
  have X_3 := Lib.hid (X_2.out.below hbl X_2.out.lt)
  have S_3 := Lib.hid (S_2.out.below hbl S_2.out.lt)
  have C_3 := Lib.hid (C_2.out.below hbl C_2.out.lt)
  have U_3 := Lib.hid ((U_2.out.below hbl (Nat.le_refl _)).mono hbl.size)
  have R_3 := Lib.hid ((R_2.out.below hbl (Nat.le_refl _)).mono hbl.size)
  have Y_3 := Lib.hid (Blk.made w2 34 #[.int .i64 st, .int .i64 ss])
  clear B_2 X_2 S_2 C_2 U_2 R_2 hbl
  go_upto_region 4 with fail
  have hbw : Below (w2.alloc (.cells #[.int .i64 st, .int .i64 ss] 34)).heap.size (w2.alloc (.cells #[.int .i64 st, .int .i64 ss] 34)) (w2.alloc (.cells #[.int .i64 st, .int .i64 ss] 34)).drew := Below.drew (Below.refl _ _)
  have B_4 := Lib.hid (B_3.out.trans (hbw.mono B_3.out.size))
  have X_4 := Lib.hid (X_3.out.below hbw X_3.out.lt)
  have S_4 := Lib.hid (S_3.out.below hbw S_3.out.lt)
  have C_4 := Lib.hid (C_3.out.below hbw C_3.out.lt)
  have U_4 := Lib.hid ((U_3.out.below hbw (Nat.le_refl _)).mono hbw.size)
  have R_4 := Lib.hid ((R_3.out.below hbw (Nat.le_refl _)).mono hbw.size)
  have Y_4 := Lib.hid (Y_3.out.below hbw Y_3.out.lt)
  clear B_3 X_3 S_3 C_3 U_3 R_3 Y_3 hbw
  refine region_anyC (fun W => Blk W w.heap.size 22 #[.int .u8 a, .int .u8 b] ∧ Blk W (w.heap.size + 1) 25 #[.int .i64 sid, .bool true, .slice Au m cu] ∧ Blk W (w.heap.size + 1 + 1) 30 #[.string tg, .int .i64 7, .string mb, .slice A n cap, .int .i64 items, .int .i64 mode, .bool sil, .int .u8 fl, .slice D nd cd] ∧ Blk W w2.heap.size 34 #[.int .i64 st, .int .i64 ss]) (by kernel_rfl) ?_
  refine anyC_take (i := 0) (v := ?_) rfl (by kernel_rfl) (by kernel_rfl) (by kernel_rfl) (fun _ _ _ h => h) (And.intro X_4.out (And.intro S_4.out (And.intro C_4.out Y_4.out))) (Or.inl ⟨by rfl, ?_⟩) ?_
  rotate_left
  · intro W hW
    go_simp
    try with_reducible rfl
  try simp only [List.getElem_toArray, List.getElem_cons_zero, List.getElem_cons_succ, Act.put, List.setIfInBounds_toArray, List.set_cons_zero, List.set_cons_succ]
  refine anyC_take (i := 1) (v := ?_) rfl (by kernel_rfl) (by kernel_rfl) (by kernel_rfl) (fun _ _ _ h => h) (And.intro X_4.out (And.intro S_4.out (And.intro C_4.out Y_4.out))) (Or.inl ⟨by rfl, ?_⟩) ?_
  rotate_left
  · intro W hW
    have s2 : W.cell? ⟨w.heap.size + 1, 2, none⟩ = some (.slice Au m cu) := hW.2.1.cell 2
    go_simp
    try with_reducible rfl
  try simp only [List.getElem_toArray, List.getElem_cons_zero, List.getElem_cons_succ, Act.put, List.setIfInBounds_toArray, List.set_cons_zero, List.set_cons_succ]
  refine anyC_take (i := 3) (v := ?_) rfl (by kernel_rfl) (by kernel_rfl) (by kernel_rfl) (fun _ _ _ h => h) (And.intro X_4.out (And.intro S_4.out (And.intro C_4.out Y_4.out))) (Or.inl ⟨by rfl, ?_⟩) ?_
  rotate_left
  · intro W hW
    go_simp
    try with_reducible rfl
  try simp only [List.getElem_toArray, List.getElem_cons_zero, List.getElem_cons_succ, Act.put, List.setIfInBounds_toArray, List.set_cons_zero, List.set_cons_succ]
  refine anyC_take (i := 4) (v := ?_) rfl (by kernel_rfl) (by kernel_rfl) (by kernel_rfl) (fun _ _ _ h => h) (And.intro X_4.out (And.intro S_4.out (And.intro C_4.out Y_4.out))) (Or.inl ⟨by rfl, ?_⟩) ?_
  rotate_left
  · intro W hW
    have c3 : W.cell? ⟨w.heap.size + 1 + 1, 3, none⟩ = some (.slice A n cap) := hW.2.2.1.cell 3
    go_simp
    try with_reducible rfl
  try simp only [List.getElem_toArray, List.getElem_cons_zero, List.getElem_cons_succ, Act.put, List.setIfInBounds_toArray, List.set_cons_zero, List.set_cons_succ]
  refine anyC_one (i := 2) (by kernel_rfl) (fun K hK => ⟨_, rfl, by kernel_rfl, ?_⟩)
  go_simp
  refine (HNw.out _ U_4.out).mono ?_
  rintro e w4 ⟨v4, rfl, hv4, hb4⟩
  have B_5 := Lib.hid (B_4.out.trans (hb4.mono B_4.out.size))
  have X_5 := Lib.hid (X_4.out.below hb4 X_4.out.lt)
  have S_5 := Lib.hid (S_4.out.below hb4 S_4.out.lt)
  have C_5 := Lib.hid (C_4.out.below hb4 C_4.out.lt)
  have U_5 := Lib.hid ((U_4.out.below hb4 (Nat.le_refl _)).mono hb4.size)
  have R_5 := Lib.hid ((R_4.out.below hb4 (Nat.le_refl _)).mono hb4.size)
  have Y_5 := Lib.hid (Y_4.out.below hb4 Y_4.out.lt)
  have N_5 := Lib.hid (U32.of_buf hv4)
  clear B_4 X_4 S_4 C_4 U_4 R_4 Y_4 hb4 hv4
  refine hK _ _ (And.intro X_5.out (And.intro S_5.out (And.intro C_5.out Y_5.out))) ?_
  clear hK K
  try simp only [List.getElem_toArray, List.getElem_cons_zero, List.getElem_cons_succ, Act.put, List.setIfInBounds_toArray, List.set_cons_zero, List.set_cons_succ]
  refine anyC_one (i := 5) (by kernel_rfl) (fun K hK => ⟨_, rfl, by kernel_rfl, ?_⟩)
  go_simp
  refine (HUi.out v4 _ N_5.out R_5.out).mono ?_
  rintro e w5 ⟨v5, rfl, hv5, hb5⟩
  have B_6 := Lib.hid (B_5.out.trans (hb5.mono B_5.out.size))
  have X_6 := Lib.hid (X_5.out.below hb5 X_5.out.lt)
  have S_6 := Lib.hid (S_5.out.below hb5 S_5.out.lt)
  have C_6 := Lib.hid (C_5.out.below hb5 C_5.out.lt)
  have U_6 := Lib.hid ((U_5.out.below hb5 (Nat.le_refl _)).mono hb5.size)
  have R_6 := Lib.hid ((R_5.out.below hb5 (Nat.le_refl _)).mono hb5.size)
  have Y_6 := Lib.hid (Y_5.out.below hb5 Y_5.out.lt)
  have N_6 := Lib.hid ((N_5.out.below hb5 (Nat.le_refl _)).mono hb5.size)
  have I_6 := Lib.hid (U32.of_buf hv5)
  clear B_5 X_5 S_5 C_5 U_5 R_5 Y_5 N_5 hb5 hv5
  refine hK _ _ (And.intro X_6.out (And.intro S_6.out (And.intro C_6.out Y_6.out))) ?_
  clear hK K
  try simp only [List.getElem_toArray, List.getElem_cons_zero, List.getElem_cons_succ, Act.put, List.setIfInBounds_toArray, List.set_cons_zero, List.set_cons_succ]
  refine anyC_take (i := 6) (v := ?_) rfl (by kernel_rfl) (by kernel_rfl) (by kernel_rfl) (fun _ _ _ h => h) (And.intro X_6.out (And.intro S_6.out (And.intro C_6.out Y_6.out))) (Or.inl ⟨by rfl, ?_⟩) ?_
  rotate_left
  · intro W hW
    go_simp
    try with_reducible rfl
  try simp only [List.getElem_toArray, List.getElem_cons_zero, List.getElem_cons_succ, Act.put, List.setIfInBounds_toArray, List.set_cons_zero, List.set_cons_succ]
  refine anyC_take (i := 7) (v := ?_) rfl (by kernel_rfl) (by kernel_rfl) (by kernel_rfl) (fun _ _ _ h => h) (And.intro X_6.out (And.intro S_6.out (And.intro C_6.out Y_6.out))) (Or.inl ⟨by rfl, ?_⟩) ?_
  rotate_left
  · intro W hW
    go_simp
    try with_reducible rfl
  try simp only [List.getElem_toArray, List.getElem_cons_zero, List.getElem_cons_succ, Act.put, List.setIfInBounds_toArray, List.set_cons_zero, List.set_cons_succ]
  refine anyC_take (i := 8) (v := ?_) rfl (by kernel_rfl) (by kernel_rfl) (by kernel_rfl) (fun _ _ _ h => h) (And.intro X_6.out (And.intro S_6.out (And.intro C_6.out Y_6.out))) (Or.inl ⟨by rfl, ?_⟩) ?_
  rotate_left
  · intro W hW
    go_simp
    try with_reducible rfl
  try simp only [List.getElem_toArray, List.getElem_cons_zero, List.getElem_cons_succ, Act.put, List.setIfInBounds_toArray, List.set_cons_zero, List.set_cons_succ]
  refine anyC_take (i := 9) (v := ?_) rfl (by kernel_rfl) (by kernel_rfl) (by kernel_rfl) (fun _ _ _ h => h) (And.intro X_6.out (And.intro S_6.out (And.intro C_6.out Y_6.out))) (Or.inl ⟨by rfl, ?_⟩) ?_
  rotate_left
  · intro W hW
    go_simp
    try with_reducible rfl
  try simp only [List.getElem_toArray, List.getElem_cons_zero, List.getElem_cons_succ, Act.put, List.setIfInBounds_toArray, List.set_cons_zero, List.set_cons_succ]
  refine anyC_take (i := 10) (v := ?_) rfl (by kernel_rfl) (by kernel_rfl) (by kernel_rfl) (fun _ _ _ h => h) (And.intro X_6.out (And.intro S_6.out (And.intro C_6.out Y_6.out))) (Or.inl ⟨by rfl, ?_⟩) ?_
  rotate_left
  · intro W hW
    go_simp
    try with_reducible rfl
  try simp only [List.getElem_toArray, List.getElem_cons_zero, List.getElem_cons_succ, Act.put, List.setIfInBounds_toArray, List.set_cons_zero, List.set_cons_succ]
  refine anyC_done (by kernel_rfl) ?_ _
  go_upto_region 5 with fail
  have hbw : Below w5.heap.size w5 w5.drew := Below.drew (Below.refl _ _)
  have B_7 := Lib.hid (B_6.out.trans (hbw.mono B_6.out.size))
  have X_7 := Lib.hid (X_6.out.below hbw X_6.out.lt)
  have S_7 := Lib.hid (S_6.out.below hbw S_6.out.lt)
  have C_7 := Lib.hid (C_6.out.below hbw C_6.out.lt)
  have U_7 := Lib.hid ((U_6.out.below hbw (Nat.le_refl _)).mono hbw.size)
  have R_7 := Lib.hid ((R_6.out.below hbw (Nat.le_refl _)).mono hbw.size)
  have Y_7 := Lib.hid (Y_6.out.below hbw Y_6.out.lt)
  have N_7 := Lib.hid ((N_6.out.below hbw (Nat.le_refl _)).mono hbw.size)
  have I_7 := Lib.hid ((I_6.out.below hbw (Nat.le_refl _)).mono hbw.size)
  clear B_6 X_6 S_6 C_6 U_6 R_6 Y_6 N_6 I_6 hbw
  refine region_anyC (fun W => Blk W w.heap.size 22 #[.int .u8 a, .int .u8 b] ∧ Blk W (w.heap.size + 1) 25 #[.int .i64 sid, .bool true, .slice Au m cu] ∧ Blk W (w.heap.size + 1 + 1) 30 #[.string tg, .int .i64 7, .string mb, .slice A n cap, .int .i64 items, .int .i64 mode, .bool sil, .int .u8 fl, .slice D nd cd] ∧ Blk W w2.heap.size 34 #[.int .i64 st, .int .i64 ss]) (by kernel_rfl) ?_
  refine anyC_take (i := 0) (v := ?_) rfl (by kernel_rfl) (by kernel_rfl) (by kernel_rfl) (fun _ _ _ h => h) (And.intro X_7.out (And.intro S_7.out (And.intro C_7.out Y_7.out))) (Or.inl ⟨by rfl, ?_⟩) ?_
  rotate_left
  · intro W hW
    have y0 : W.cell? ⟨w2.heap.size, 0, none⟩ = some (.int .i64 st) := hW.2.2.2.cell 0
    have y1 : W.cell? ⟨w2.heap.size, 1, none⟩ = some (.int .i64 ss) := hW.2.2.2.cell 1
    go_simp
    try with_reducible rfl
  try simp only [List.getElem_toArray, List.getElem_cons_zero, List.getElem_cons_succ, Act.put, List.setIfInBounds_toArray, List.set_cons_zero, List.set_cons_succ]
  refine anyC_take (i := 1) (v := ?_) rfl (by kernel_rfl) (by kernel_rfl) (by kernel_rfl) (fun _ _ _ h => h) (And.intro X_7.out (And.intro S_7.out (And.intro C_7.out Y_7.out))) (Or.inl ⟨by rfl, ?_⟩) ?_
  rotate_left
  · intro W hW
    go_simp
    try with_reducible rfl
  try simp only [List.getElem_toArray, List.getElem_cons_zero, List.getElem_cons_succ, Act.put, List.setIfInBounds_toArray, List.set_cons_zero, List.set_cons_succ]
  refine anyC_take (i := 2) (v := ?_) rfl (by kernel_rfl) (by kernel_rfl) (by kernel_rfl) (fun _ _ _ h => h) (And.intro X_7.out (And.intro S_7.out (And.intro C_7.out Y_7.out))) (Or.inl ⟨by rfl, ?_⟩) ?_
  rotate_left
  · intro W hW
    have s0 : W.cell? ⟨w.heap.size + 1, 0, none⟩ = some (.int .i64 sid) := hW.2.1.cell 0
    go_simp
    try with_reducible rfl
  try simp only [List.getElem_toArray, List.getElem_cons_zero, List.getElem_cons_succ, Act.put, List.setIfInBounds_toArray, List.set_cons_zero, List.set_cons_succ]
  refine anyC_take (i := 3) (v := ?_) rfl (by kernel_rfl) (by kernel_rfl) (by kernel_rfl) (fun _ _ _ h => h) (And.intro X_7.out (And.intro S_7.out (And.intro C_7.out Y_7.out))) (Or.inl ⟨by rfl, ?_⟩) ?_
  rotate_left
  · intro W hW
    have s0 : W.cell? ⟨w.heap.size + 1, 0, none⟩ = some (.int .i64 sid) := hW.2.1.cell 0
    have s1 : W.cell? ⟨w.heap.size + 1, 1, none⟩ = some (.bool true) := hW.2.1.cell 1
    have s2 : W.cell? ⟨w.heap.size + 1, 2, none⟩ = some (.slice Au m cu) := hW.2.1.cell 2
    go_simp
    try with_reducible rfl
  try simp only [List.getElem_toArray, List.getElem_cons_zero, List.getElem_cons_succ, Act.put, List.setIfInBounds_toArray, List.set_cons_zero, List.set_cons_succ]
  refine anyC_take (i := 5) (v := ?_) rfl (by kernel_rfl) (by kernel_rfl) (by kernel_rfl) (fun _ _ _ h => h) (And.intro X_7.out (And.intro S_7.out (And.intro C_7.out Y_7.out))) (Or.inl ⟨by rfl, ?_⟩) ?_
  rotate_left
  · intro W hW
    have c0 : W.cell? ⟨w.heap.size + 1 + 1, 0, none⟩ = some (.string tg) := hW.2.2.1.cell 0
    have c1 : W.cell? ⟨w.heap.size + 1 + 1, 1, none⟩ = some (.int .i64 7) := hW.2.2.1.cell 1
    have c2 : W.cell? ⟨w.heap.size + 1 + 1, 2, none⟩ = some (.string mb) := hW.2.2.1.cell 2
    have c3 : W.cell? ⟨w.heap.size + 1 + 1, 3, none⟩ = some (.slice A n cap) := hW.2.2.1.cell 3
    have c4 : W.cell? ⟨w.heap.size + 1 + 1, 4, none⟩ = some (.int .i64 items) := hW.2.2.1.cell 4
    have c5 : W.cell? ⟨w.heap.size + 1 + 1, 5, none⟩ = some (.int .i64 mode) := hW.2.2.1.cell 5
    have c6 : W.cell? ⟨w.heap.size + 1 + 1, 6, none⟩ = some (.bool sil) := hW.2.2.1.cell 6
    have c7 : W.cell? ⟨w.heap.size + 1 + 1, 7, none⟩ = some (.int .u8 fl) := hW.2.2.1.cell 7
    have c8 : W.cell? ⟨w.heap.size + 1 + 1, 8, none⟩ = some (.slice D nd cd) := hW.2.2.1.cell 8
    go_simp
    try with_reducible rfl
  try simp only [List.getElem_toArray, List.getElem_cons_zero, List.getElem_cons_succ, Act.put, List.setIfInBounds_toArray, List.set_cons_zero, List.set_cons_succ]
  refine anyC_one (i := 4) (by kernel_rfl) (fun K hK => ⟨_, rfl, by kernel_rfl, ?_⟩)
  go_simp
  refine (HLk.out _ U_7.out).mono ?_
  rintro e w6 ⟨p, rfl, hv6, hp, hb6⟩
  have B_8 := Lib.hid (B_7.out.trans (hb6.mono B_7.out.size))
  have X_8 := Lib.hid (X_7.out.below hb6 X_7.out.lt)
  have S_8 := Lib.hid (S_7.out.below hb6 S_7.out.lt)
  have C_8 := Lib.hid (C_7.out.below hb6 C_7.out.lt)
  have U_8 := Lib.hid ((U_7.out.below hb6 (Nat.le_refl _)).mono hb6.size)
  have R_8 := Lib.hid ((R_7.out.below hb6 (Nat.le_refl _)).mono hb6.size)
  have Y_8 := Lib.hid (Y_7.out.below hb6 Y_7.out.lt)
  have N_8 := Lib.hid ((N_7.out.below hb6 (Nat.le_refl _)).mono hb6.size)
  have I_8 := Lib.hid ((I_7.out.below hb6 (Nat.le_refl _)).mono hb6.size)
  have V_8 := Lib.hid (hv6)
  clear B_7 X_7 S_7 C_7 U_7 R_7 Y_7 N_7 I_7 hb6 hv6
  refine hK _ _ (And.intro X_8.out (And.intro S_8.out (And.intro C_8.out Y_8.out))) ?_
  clear hK K
  try simp only [List.getElem_toArray, List.getElem_cons_zero, List.getElem_cons_succ, Act.put, List.setIfInBounds_toArray, List.set_cons_zero, List.set_cons_succ]
  refine anyC_one (i := 6) (by kernel_rfl) (fun K hK => ⟨_, rfl, by kernel_rfl, ?_⟩)
  go_simp
  refine (HFr.out p hp _ V_8.out R_8.out).mono ?_
  rintro e w7 ⟨v7, rfl, hv7, hb7⟩
  have B_9 := Lib.hid (B_8.out.trans (hb7.mono B_8.out.size))
  have X_9 := Lib.hid (X_8.out.below hb7 X_8.out.lt)
  have S_9 := Lib.hid (S_8.out.below hb7 S_8.out.lt)
  have C_9 := Lib.hid (C_8.out.below hb7 C_8.out.lt)
  have U_9 := Lib.hid ((U_8.out.below hb7 (Nat.le_refl _)).mono hb7.size)
  have R_9 := Lib.hid ((R_8.out.below hb7 (Nat.le_refl _)).mono hb7.size)
  have Y_9 := Lib.hid (Y_8.out.below hb7 Y_8.out.lt)
  have N_9 := Lib.hid ((N_8.out.below hb7 (Nat.le_refl _)).mono hb7.size)
  have I_9 := Lib.hid ((I_8.out.below hb7 (Nat.le_refl _)).mono hb7.size)
  have V_9 := Lib.hid ((V_8.out.below hb7 (Nat.le_refl _)).mono hb7.size)
  have G_9 := Lib.hid (lb_rd hv7)
  clear B_8 X_8 S_8 C_8 U_8 R_8 Y_8 N_8 I_8 V_8 hb7 hv7
  refine hK _ _ (And.intro X_9.out (And.intro S_9.out (And.intro C_9.out Y_9.out))) ?_
  clear hK K
  try simp only [List.getElem_toArray, List.getElem_cons_zero, List.getElem_cons_succ, Act.put, List.setIfInBounds_toArray, List.set_cons_zero, List.set_cons_succ]
  refine anyC_take (i := 7) (v := ?_) rfl (by kernel_rfl) (by kernel_rfl) (by kernel_rfl) (fun _ _ _ h => h) (And.intro X_9.out (And.intro S_9.out (And.intro C_9.out Y_9.out))) (Or.inl ⟨by rfl, ?_⟩) ?_
  rotate_left
  · intro W hW
    go_simp
    try with_reducible rfl
  try simp only [List.getElem_toArray, List.getElem_cons_zero, List.getElem_cons_succ, Act.put, List.setIfInBounds_toArray, List.set_cons_zero, List.set_cons_succ]
  refine anyC_done (by kernel_rfl) ?_ _
  obtain ⟨Ag, cg, rfl, hcg, hcg2⟩ := id G_9.out
  clear hcg hcg2
  rw [List.length_map] at G_9 ⊢
  have s0 : w7.cell? ⟨w.heap.size + 1, 0, none⟩ = some (.int .i64 sid) := S_9.out.cell 0
  have y0 : w7.cell? ⟨w2.heap.size, 0, none⟩ = some (.int .i64 st) := Y_9.out.cell 0
  have y1 : w7.cell? ⟨w2.heap.size, 1, none⟩ = some (.int .i64 ss) := Y_9.out.cell 1
  cases ok with
  | false =>
    obtain rfl : T = [] := HBad.out (.inl rfl)
    rw [show ([] : List Int).length = 0 from rfl]
    go_wp2_with fail
    refine (HA.out _).mono ?_
    rintro e wz ⟨rfl, hbz⟩
    have B_10 := Lib.hid (B_9.out.trans (hbz.mono B_9.out.size))
    have X_10 := Lib.hid (X_9.out.below hbz X_9.out.lt)
    have S_10 := Lib.hid (S_9.out.below hbz S_9.out.lt)
    have C_10 := Lib.hid (C_9.out.below hbz C_9.out.lt)
    have U_10 := Lib.hid ((U_9.out.below hbz (Nat.le_refl _)).mono hbz.size)
    have R_10 := Lib.hid ((R_9.out.below hbz (Nat.le_refl _)).mono hbz.size)
    have Y_10 := Lib.hid (Y_9.out.below hbz Y_9.out.lt)
    have N_10 := Lib.hid ((N_9.out.below hbz (Nat.le_refl _)).mono hbz.size)
    have I_10 := Lib.hid ((I_9.out.below hbz (Nat.le_refl _)).mono hbz.size)
    have V_10 := Lib.hid ((V_9.out.below hbz (Nat.le_refl _)).mono hbz.size)
    have G_10 := Lib.hid ((G_9.out.below hbz (Nat.le_refl _)).mono hbz.size)
    clear B_9 X_9 S_9 C_9 U_9 R_9 Y_9 N_9 I_9 V_9 G_9 hbz
    go_wp2_with fail
    go_ret
    exact ⟨rfl, B_10.out⟩
  | true =>
  by_cases h1 : sid < 0
  · have h1d : decide (sid < 0) = true := decide_eq_true h1
    obtain rfl : T = [] := HBad.out (.inr (by omega))
    rw [show ([] : List Int).length = 0 from rfl]
    go_wp2_with fail
    refine (HA.out _).mono ?_
    rintro e wz ⟨rfl, hbz⟩
    have B_10 := Lib.hid (B_9.out.trans (hbz.mono B_9.out.size))
    have X_10 := Lib.hid (X_9.out.below hbz X_9.out.lt)
    have S_10 := Lib.hid (S_9.out.below hbz S_9.out.lt)
    have C_10 := Lib.hid (C_9.out.below hbz C_9.out.lt)
    have U_10 := Lib.hid ((U_9.out.below hbz (Nat.le_refl _)).mono hbz.size)
    have R_10 := Lib.hid ((R_9.out.below hbz (Nat.le_refl _)).mono hbz.size)
    have Y_10 := Lib.hid (Y_9.out.below hbz Y_9.out.lt)
    have N_10 := Lib.hid ((N_9.out.below hbz (Nat.le_refl _)).mono hbz.size)
    have I_10 := Lib.hid ((I_9.out.below hbz (Nat.le_refl _)).mono hbz.size)
    have V_10 := Lib.hid ((V_9.out.below hbz (Nat.le_refl _)).mono hbz.size)
    have G_10 := Lib.hid ((G_9.out.below hbz (Nat.le_refl _)).mono hbz.size)
    clear B_9 X_9 S_9 C_9 U_9 R_9 Y_9 N_9 I_9 V_9 G_9 hbz
    go_wp2_with fail
    go_ret
    exact ⟨rfl, B_10.out⟩
  by_cases h2 : (ss : Int) ≤ sid
  · have h1d : decide (sid < 0) = false := decide_eq_false h1
    have h2d : decide ((ss : Int) ≤ sid) = true := decide_eq_true h2
    obtain rfl : T = [] := HBad.out (.inr (by omega))
    rw [show ([] : List Int).length = 0 from rfl]
    go_wp2_with fail
    refine (HA.out _).mono ?_
    rintro e wz ⟨rfl, hbz⟩
    have B_10 := Lib.hid (B_9.out.trans (hbz.mono B_9.out.size))
    have X_10 := Lib.hid (X_9.out.below hbz X_9.out.lt)
    have S_10 := Lib.hid (S_9.out.below hbz S_9.out.lt)
    have C_10 := Lib.hid (C_9.out.below hbz C_9.out.lt)
    have U_10 := Lib.hid ((U_9.out.below hbz (Nat.le_refl _)).mono hbz.size)
    have R_10 := Lib.hid ((R_9.out.below hbz (Nat.le_refl _)).mono hbz.size)
    have Y_10 := Lib.hid (Y_9.out.below hbz Y_9.out.lt)
    have N_10 := Lib.hid ((N_9.out.below hbz (Nat.le_refl _)).mono hbz.size)
    have I_10 := Lib.hid ((I_9.out.below hbz (Nat.le_refl _)).mono hbz.size)
    have V_10 := Lib.hid ((V_9.out.below hbz (Nat.le_refl _)).mono hbz.size)
    have G_10 := Lib.hid ((G_9.out.below hbz (Nat.le_refl _)).mono hbz.size)
    clear B_9 X_9 S_9 C_9 U_9 R_9 Y_9 N_9 I_9 V_9 G_9 hbz
    go_wp2_with fail
    go_ret
    exact ⟨rfl, B_10.out⟩
  have h1d : decide (sid < 0) = false := decide_eq_false h1
  have h2d : decide ((ss : Int) ≤ sid) = false := decide_eq_false h2
  obtain ⟨t, ht, hTe⟩ := HGood.out (by omega) rfl
  have HSu := HSL.out uu t ht
  rw [← hTe] at HSu
  have HS2 := Lib.hid HSu
  clear HSu hTe ht t HSL HGood HBad
  obtain ⟨tl, htl⟩ : ∃ tl, T.length = tl := ⟨_, rfl⟩
  have HTn := Lib.hid htl
  rw [htl] at G_9 ⊢
  clear htl
  go_wp2_with fail
  go_loopw [79] (fun i wr => ∃ k : Nat, k ≤ st ∧ i = .int .i64 k ∧ Below w7.heap.size w7 wr) (fun i _ => st - (intOf i).toNat)
  case atStart => exact ⟨0, Nat.zero_le _, rfl, Below.refl _ _⟩
  case round =>
    obtain ⟨k, hk, rfl, hbel⟩ := hrel
    have hkI : (k : Int) ≤ st := by omega
    clear s0 y0 y1
    have HBL := Lib.hid hbel
    have B_10 := Lib.hid (B_9.out.trans (hbel.mono B_9.out.size))
    have X_10 := Lib.hid (X_9.out.below hbel X_9.out.lt)
    have S_10 := Lib.hid (S_9.out.below hbel S_9.out.lt)
    have C_10 := Lib.hid (C_9.out.below hbel C_9.out.lt)
    have U_10 := Lib.hid ((U_9.out.below hbel (Nat.le_refl _)).mono hbel.size)
    have R_10 := Lib.hid ((R_9.out.below hbel (Nat.le_refl _)).mono hbel.size)
    have Y_10 := Lib.hid (Y_9.out.below hbel Y_9.out.lt)
    have N_10 := Lib.hid ((N_9.out.below hbel (Nat.le_refl _)).mono hbel.size)
    have I_10 := Lib.hid ((I_9.out.below hbel (Nat.le_refl _)).mono hbel.size)
    have G_10 := Lib.hid ((G_9.out.below hbel (Nat.le_refl _)).mono hbel.size)
    clear hbel
    have y0 : wr.cell? ⟨w2.heap.size, 0, none⟩ = some (.int .i64 st) := Y_10.out.cell 0
    have y1 : wr.cell? ⟨w2.heap.size, 1, none⟩ = some (.int .i64 ss) := Y_10.out.cell 1
    by_cases hlt : k < st
    · have hltI : (k : Int) < st := by omega
      have HS1 := Lib.hid (HSt.out k wr hlt)
      have HLaw := Lib.hid (HS2.out.1 k hlt)
      go_wp2_with fail
      refine HS1.out.mono ?_
      rintro e w8 ⟨rfl, hb8⟩
      have hbl8 := Lib.hid (HBL.out.trans (hb8.mono HBL.out.size))
      have B_11 := Lib.hid (B_10.out.trans (hb8.mono B_10.out.size))
      have X_11 := Lib.hid (X_10.out.below hb8 X_10.out.lt)
      have S_11 := Lib.hid (S_10.out.below hb8 S_10.out.lt)
      have C_11 := Lib.hid (C_10.out.below hb8 C_10.out.lt)
      have U_11 := Lib.hid ((U_10.out.below hb8 (Nat.le_refl _)).mono hb8.size)
      have R_11 := Lib.hid ((R_10.out.below hb8 (Nat.le_refl _)).mono hb8.size)
      have Y_11 := Lib.hid (Y_10.out.below hb8 Y_10.out.lt)
      have N_11 := Lib.hid ((N_10.out.below hb8 (Nat.le_refl _)).mono hb8.size)
      have I_11 := Lib.hid ((I_10.out.below hb8 (Nat.le_refl _)).mono hb8.size)
      have G_11 := Lib.hid ((G_10.out.below hb8 (Nat.le_refl _)).mono hb8.size)
      clear B_10 X_10 S_10 C_10 U_10 R_10 Y_10 N_10 I_10 G_10 hb8 y0 y1
      go_upto_region 12 with fail
      have hbw : Below w8.heap.size w8 w8.drew := Below.drew (Below.refl _ _)
      have hbl9 := Lib.hid (hbl8.out.trans (hbw.mono hbl8.out.size))
      have B_12 := Lib.hid (B_11.out.trans (hbw.mono B_11.out.size))
      have X_12 := Lib.hid (X_11.out.below hbw X_11.out.lt)
      have S_12 := Lib.hid (S_11.out.below hbw S_11.out.lt)
      have C_12 := Lib.hid (C_11.out.below hbw C_11.out.lt)
      have U_12 := Lib.hid ((U_11.out.below hbw (Nat.le_refl _)).mono hbw.size)
      have R_12 := Lib.hid ((R_11.out.below hbw (Nat.le_refl _)).mono hbw.size)
      have Y_12 := Lib.hid (Y_11.out.below hbw Y_11.out.lt)
      have N_12 := Lib.hid ((N_11.out.below hbw (Nat.le_refl _)).mono hbw.size)
      have I_12 := Lib.hid ((I_11.out.below hbw (Nat.le_refl _)).mono hbw.size)
      have G_12 := Lib.hid ((G_11.out.below hbw (Nat.le_refl _)).mono hbw.size)
      clear B_11 X_11 S_11 C_11 U_11 R_11 Y_11 N_11 I_11 G_11 hbw
      obtain ⟨z, hz⟩ : ∃ z, (uu.filter fun u => decide (u % (st : Int) = (k : Int))).length = z := ⟨_, rfl⟩
      have HIk := Lib.hid (HIn.out (k : Int))
      have hzb : z ≤ 60 := by have := List.length_filter_le (fun u => decide (u % (st : Int) = (k : Int))) uu; have := HUl.out; omega
      rw [hz] at HLaw
      have HZ := Lib.hid hz
      clear hz
      by_cases hz0 : 0 < z
      · have hzI : (0 : Int) < z := by omega
        have hzd : decide ((0 : Int) < z) = true := decide_eq_true hzI
        have HL2 := Lib.hid (HLaw.out.trans (decide_eq_true hz0))
        refine region_anyC (fun W => Blk W w.heap.size 22 #[.int .u8 a, .int .u8 b] ∧ Blk W (w.heap.size + 1) 25 #[.int .i64 sid, .bool true, .slice Au m cu] ∧ Blk W (w.heap.size + 1 + 1) 30 #[.string tg, .int .i64 7, .string mb, .slice A n cap, .int .i64 items, .int .i64 mode, .bool sil, .int .u8 fl, .slice D nd cd] ∧ Blk W w2.heap.size 34 #[.int .i64 st, .int .i64 ss]) (by kernel_rfl) ?_
        refine anyC_take (i := 0) (v := ?_) rfl (by kernel_rfl) (by kernel_rfl) (by kernel_rfl) (fun _ _ _ h => h) (And.intro X_12.out (And.intro S_12.out (And.intro C_12.out Y_12.out))) (Or.inl ⟨by rfl, ?_⟩) ?_
        rotate_left
        · intro W hW
          go_simp
          try with_reducible rfl
        try simp only [List.getElem_toArray, List.getElem_cons_zero, List.getElem_cons_succ, Act.put, List.setIfInBounds_toArray, List.set_cons_zero, List.set_cons_succ]
        refine anyC_take (i := 1) (v := ?_) rfl (by kernel_rfl) (by kernel_rfl) (by kernel_rfl) (fun _ _ _ h => h) (And.intro X_12.out (And.intro S_12.out (And.intro C_12.out Y_12.out))) (Or.inl ⟨by rfl, ?_⟩) ?_
        rotate_left
        · intro W hW
          go_simp
          try with_reducible rfl
        try simp only [List.getElem_toArray, List.getElem_cons_zero, List.getElem_cons_succ, Act.put, List.setIfInBounds_toArray, List.set_cons_zero, List.set_cons_succ]
        refine anyC_take (i := 2) (v := ?_) rfl (by kernel_rfl) (by kernel_rfl) (by kernel_rfl) (fun _ _ _ h => h) (And.intro X_12.out (And.intro S_12.out (And.intro C_12.out Y_12.out))) (Or.inl ⟨by rfl, ?_⟩) ?_
        rotate_left
        · intro W hW
          go_simp
          try with_reducible rfl
        try simp only [List.getElem_toArray, List.getElem_cons_zero, List.getElem_cons_succ, Act.put, List.setIfInBounds_toArray, List.set_cons_zero, List.set_cons_succ]
        refine anyC_take (i := 3) (v := ?_) rfl (by kernel_rfl) (by kernel_rfl) (by kernel_rfl) (fun _ _ _ h => h) (And.intro X_12.out (And.intro S_12.out (And.intro C_12.out Y_12.out))) (Or.inl ⟨by rfl, ?_⟩) ?_
        rotate_left
        · intro W hW
          go_simp
          try with_reducible rfl
        try simp only [List.getElem_toArray, List.getElem_cons_zero, List.getElem_cons_succ, Act.put, List.setIfInBounds_toArray, List.set_cons_zero, List.set_cons_succ]
        refine anyC_take (i := 4) (v := ?_) rfl (by kernel_rfl) (by kernel_rfl) (by kernel_rfl) (fun _ _ _ h => h) (And.intro X_12.out (And.intro S_12.out (And.intro C_12.out Y_12.out))) (Or.inl ⟨by rfl, ?_⟩) ?_
        rotate_left
        · intro W hW
          go_simp
          try with_reducible rfl
        try simp only [List.getElem_toArray, List.getElem_cons_zero, List.getElem_cons_succ, Act.put, List.setIfInBounds_toArray, List.set_cons_zero, List.set_cons_succ]
        refine anyC_take (i := 6) (v := ?_) rfl (by kernel_rfl) (by kernel_rfl) (by kernel_rfl) (fun _ _ _ h => h) (And.intro X_12.out (And.intro S_12.out (And.intro C_12.out Y_12.out))) (Or.inl ⟨by rfl, ?_⟩) ?_
        rotate_left
        · intro W hW
          go_simp
          try with_reducible rfl
        try simp only [List.getElem_toArray, List.getElem_cons_zero, List.getElem_cons_succ, Act.put, List.setIfInBounds_toArray, List.set_cons_zero, List.set_cons_succ]
        refine anyC_take (i := 7) (v := ?_) rfl (by kernel_rfl) (by kernel_rfl) (by kernel_rfl) (fun _ _ _ h => h) (And.intro X_12.out (And.intro S_12.out (And.intro C_12.out Y_12.out))) (Or.inl ⟨by rfl, ?_⟩) ?_
        rotate_left
        · intro W hW
          have y0 : W.cell? ⟨w2.heap.size, 0, none⟩ = some (.int .i64 st) := hW.2.2.2.cell 0
          go_simp
          try with_reducible rfl
        try simp only [List.getElem_toArray, List.getElem_cons_zero, List.getElem_cons_succ, Act.put, List.setIfInBounds_toArray, List.set_cons_zero, List.set_cons_succ]
        refine anyC_take (i := 8) (v := ?_) rfl (by kernel_rfl) (by kernel_rfl) (by kernel_rfl) (fun _ _ _ h => h) (And.intro X_12.out (And.intro S_12.out (And.intro C_12.out Y_12.out))) (Or.inl ⟨by rfl, ?_⟩) ?_
        rotate_left
        · intro W hW
          go_simp
          try with_reducible rfl
        try simp only [List.getElem_toArray, List.getElem_cons_zero, List.getElem_cons_succ, Act.put, List.setIfInBounds_toArray, List.set_cons_zero, List.set_cons_succ]
        refine anyC_take (i := 9) (v := ?_) rfl (by kernel_rfl) (by kernel_rfl) (by kernel_rfl) (fun _ _ _ h => h) (And.intro X_12.out (And.intro S_12.out (And.intro C_12.out Y_12.out))) (Or.inl ⟨by rfl, ?_⟩) ?_
        rotate_left
        · intro W hW
          go_simp
          try with_reducible rfl
        try simp only [List.getElem_toArray, List.getElem_cons_zero, List.getElem_cons_succ, Act.put, List.setIfInBounds_toArray, List.set_cons_zero, List.set_cons_succ]
        refine anyC_one (i := 5) (by kernel_rfl) (fun K hK => ⟨_, rfl, by kernel_rfl, ?_⟩)
        go_simp
        refine (contains_any G_12.out (1 + (k : Int)) (by have := HTl.out; omega)).mono ?_
        rintro e w9 ⟨rfl, rfl⟩
        rw [HL2.out]
        refine hK _ _ (And.intro X_12.out (And.intro S_12.out (And.intro C_12.out Y_12.out))) ?_
        clear hK K
        try simp only [List.getElem_toArray, List.getElem_cons_zero, List.getElem_cons_succ, Act.put, List.setIfInBounds_toArray, List.set_cons_zero, List.set_cons_succ]
        refine anyC_one (i := 10) (by kernel_rfl) (fun K hK => ⟨_, rfl, by kernel_rfl, ?_⟩)
        go_simp
        refine (HIk.out _ _ I_12.out).mono ?_
        rintro e w10 ⟨v10, rfl, hv10, hb10⟩
        have hbl10 := Lib.hid (hbl9.out.trans (hb10.mono hbl9.out.size))
        have hsh := hv10.shape
        rw [HZ.out] at hsh
        obtain ⟨A10, c10, rfl⟩ : ∃ A10 c10, v10 = .slice A10 z c10 := by
          rcases hsh with ⟨rfl, e0⟩ | ⟨g, off, cap10, rfl, _⟩
          · have h0 := HZ.out
            rw [e0] at h0
            exact ⟨none, 0, by rw [← h0]; rfl⟩
          · exact ⟨_, _, rfl⟩
        have B_13 := Lib.hid (B_12.out.trans (hb10.mono B_12.out.size))
        have X_13 := Lib.hid (X_12.out.below hb10 X_12.out.lt)
        have S_13 := Lib.hid (S_12.out.below hb10 S_12.out.lt)
        have C_13 := Lib.hid (C_12.out.below hb10 C_12.out.lt)
        have U_13 := Lib.hid ((U_12.out.below hb10 (Nat.le_refl _)).mono hb10.size)
        have R_13 := Lib.hid ((R_12.out.below hb10 (Nat.le_refl _)).mono hb10.size)
        have Y_13 := Lib.hid (Y_12.out.below hb10 Y_12.out.lt)
        have N_13 := Lib.hid ((N_12.out.below hb10 (Nat.le_refl _)).mono hb10.size)
        have I_13 := Lib.hid ((I_12.out.below hb10 (Nat.le_refl _)).mono hb10.size)
        have G_13 := Lib.hid ((G_12.out.below hb10 (Nat.le_refl _)).mono hb10.size)
        clear B_12 X_12 S_12 C_12 U_12 R_12 Y_12 N_12 I_12 G_12 hb10 hv10 hsh
        refine hK _ _ (And.intro X_13.out (And.intro S_13.out (And.intro C_13.out Y_13.out))) ?_
        clear hK K
        try simp only [List.getElem_toArray, List.getElem_cons_zero, List.getElem_cons_succ, Act.put, List.setIfInBounds_toArray, List.set_cons_zero, List.set_cons_succ]
        refine anyC_take (i := 11) (v := ?_) rfl (by kernel_rfl) (by kernel_rfl) (by kernel_rfl) (fun _ _ _ h => h) (And.intro X_13.out (And.intro S_13.out (And.intro C_13.out Y_13.out))) (Or.inl ⟨by rfl, ?_⟩) ?_
        rotate_left
        · intro W hW
          go_simp
          try with_reducible rfl
        try simp only [List.getElem_toArray, List.getElem_cons_zero, List.getElem_cons_succ, Act.put, List.setIfInBounds_toArray, List.set_cons_zero, List.set_cons_succ]
        refine anyC_take (i := 12) (v := ?_) rfl (by kernel_rfl) (by kernel_rfl) (by kernel_rfl) (fun _ _ _ h => h) (And.intro X_13.out (And.intro S_13.out (And.intro C_13.out Y_13.out))) (Or.inl ⟨by rfl, ?_⟩) ?_
        rotate_left
        · intro W hW
          go_simp
          try with_reducible rfl
        try simp only [List.getElem_toArray, List.getElem_cons_zero, List.getElem_cons_succ, Act.put, List.setIfInBounds_toArray, List.set_cons_zero, List.set_cons_succ]
        refine anyC_take (i := 13) (v := ?_) rfl (by kernel_rfl) (by kernel_rfl) (by kernel_rfl) (fun _ _ _ h => h) (And.intro X_13.out (And.intro S_13.out (And.intro C_13.out Y_13.out))) (Or.inl ⟨by rfl, ?_⟩) ?_
        rotate_left
        · intro W hW
          go_simp
          try with_reducible rfl
        try simp only [List.getElem_toArray, List.getElem_cons_zero, List.getElem_cons_succ, Act.put, List.setIfInBounds_toArray, List.set_cons_zero, List.set_cons_succ]
        refine anyC_take (i := 14) (v := ?_) rfl (by kernel_rfl) (by kernel_rfl) (by kernel_rfl) (fun _ _ _ h => h) (And.intro X_13.out (And.intro S_13.out (And.intro C_13.out Y_13.out))) (Or.inl ⟨by rfl, ?_⟩) ?_
        rotate_left
        · intro W hW
          go_simp
          try with_reducible rfl
        try simp only [List.getElem_toArray, List.getElem_cons_zero, List.getElem_cons_succ, Act.put, List.setIfInBounds_toArray, List.set_cons_zero, List.set_cons_succ]
        refine anyC_done (by kernel_rfl) ?_ _
        go_wp2_with fail
        go_roundw
        case rel => exact ⟨k + 1, by omega, by go_num, hbl10.out⟩
        case measure => simp [intOf]; omega
      · obtain rfl : z = 0 := by omega
        have HL2 := Lib.hid (HLaw.out.trans (decide_eq_false (by omega)))
        refine region_anyC (fun W => Blk W w.heap.size 22 #[.int .u8 a, .int .u8 b] ∧ Blk W (w.heap.size + 1) 25 #[.int .i64 sid, .bool true, .slice Au m cu] ∧ Blk W (w.heap.size + 1 + 1) 30 #[.string tg, .int .i64 7, .string mb, .slice A n cap, .int .i64 items, .int .i64 mode, .bool sil, .int .u8 fl, .slice D nd cd] ∧ Blk W w2.heap.size 34 #[.int .i64 st, .int .i64 ss]) (by kernel_rfl) ?_
        refine anyC_take (i := 0) (v := ?_) rfl (by kernel_rfl) (by kernel_rfl) (by kernel_rfl) (fun _ _ _ h => h) (And.intro X_12.out (And.intro S_12.out (And.intro C_12.out Y_12.out))) (Or.inl ⟨by rfl, ?_⟩) ?_
        rotate_left
        · intro W hW
          go_simp
          try with_reducible rfl
        try simp only [List.getElem_toArray, List.getElem_cons_zero, List.getElem_cons_succ, Act.put, List.setIfInBounds_toArray, List.set_cons_zero, List.set_cons_succ]
        refine anyC_take (i := 1) (v := ?_) rfl (by kernel_rfl) (by kernel_rfl) (by kernel_rfl) (fun _ _ _ h => h) (And.intro X_12.out (And.intro S_12.out (And.intro C_12.out Y_12.out))) (Or.inl ⟨by rfl, ?_⟩) ?_
        rotate_left
        · intro W hW
          go_simp
          try with_reducible rfl
        try simp only [List.getElem_toArray, List.getElem_cons_zero, List.getElem_cons_succ, Act.put, List.setIfInBounds_toArray, List.set_cons_zero, List.set_cons_succ]
        refine anyC_take (i := 2) (v := ?_) rfl (by kernel_rfl) (by kernel_rfl) (by kernel_rfl) (fun _ _ _ h => h) (And.intro X_12.out (And.intro S_12.out (And.intro C_12.out Y_12.out))) (Or.inl ⟨by rfl, ?_⟩) ?_
        rotate_left
        · intro W hW
          go_simp
          try with_reducible rfl
        try simp only [List.getElem_toArray, List.getElem_cons_zero, List.getElem_cons_succ, Act.put, List.setIfInBounds_toArray, List.set_cons_zero, List.set_cons_succ]
        refine anyC_take (i := 3) (v := ?_) rfl (by kernel_rfl) (by kernel_rfl) (by kernel_rfl) (fun _ _ _ h => h) (And.intro X_12.out (And.intro S_12.out (And.intro C_12.out Y_12.out))) (Or.inl ⟨by rfl, ?_⟩) ?_
        rotate_left
        · intro W hW
          go_simp
          try with_reducible rfl
        try simp only [List.getElem_toArray, List.getElem_cons_zero, List.getElem_cons_succ, Act.put, List.setIfInBounds_toArray, List.set_cons_zero, List.set_cons_succ]
        refine anyC_take (i := 4) (v := ?_) rfl (by kernel_rfl) (by kernel_rfl) (by kernel_rfl) (fun _ _ _ h => h) (And.intro X_12.out (And.intro S_12.out (And.intro C_12.out Y_12.out))) (Or.inl ⟨by rfl, ?_⟩) ?_
        rotate_left
        · intro W hW
          go_simp
          try with_reducible rfl
        try simp only [List.getElem_toArray, List.getElem_cons_zero, List.getElem_cons_succ, Act.put, List.setIfInBounds_toArray, List.set_cons_zero, List.set_cons_succ]
        refine anyC_take (i := 6) (v := ?_) rfl (by kernel_rfl) (by kernel_rfl) (by kernel_rfl) (fun _ _ _ h => h) (And.intro X_12.out (And.intro S_12.out (And.intro C_12.out Y_12.out))) (Or.inl ⟨by rfl, ?_⟩) ?_
        rotate_left
        · intro W hW
          go_simp
          try with_reducible rfl
        try simp only [List.getElem_toArray, List.getElem_cons_zero, List.getElem_cons_succ, Act.put, List.setIfInBounds_toArray, List.set_cons_zero, List.set_cons_succ]
        refine anyC_take (i := 7) (v := ?_) rfl (by kernel_rfl) (by kernel_rfl) (by kernel_rfl) (fun _ _ _ h => h) (And.intro X_12.out (And.intro S_12.out (And.intro C_12.out Y_12.out))) (Or.inl ⟨by rfl, ?_⟩) ?_
        rotate_left
        · intro W hW
          have y0 : W.cell? ⟨w2.heap.size, 0, none⟩ = some (.int .i64 st) := hW.2.2.2.cell 0
          go_simp
          try with_reducible rfl
        try simp only [List.getElem_toArray, List.getElem_cons_zero, List.getElem_cons_succ, Act.put, List.setIfInBounds_toArray, List.set_cons_zero, List.set_cons_succ]
        refine anyC_take (i := 8) (v := ?_) rfl (by kernel_rfl) (by kernel_rfl) (by kernel_rfl) (fun _ _ _ h => h) (And.intro X_12.out (And.intro S_12.out (And.intro C_12.out Y_12.out))) (Or.inl ⟨by rfl, ?_⟩) ?_
        rotate_left
        · intro W hW
          go_simp
          try with_reducible rfl
        try simp only [List.getElem_toArray, List.getElem_cons_zero, List.getElem_cons_succ, Act.put, List.setIfInBounds_toArray, List.set_cons_zero, List.set_cons_succ]
        refine anyC_take (i := 9) (v := ?_) rfl (by kernel_rfl) (by kernel_rfl) (by kernel_rfl) (fun _ _ _ h => h) (And.intro X_12.out (And.intro S_12.out (And.intro C_12.out Y_12.out))) (Or.inl ⟨by rfl, ?_⟩) ?_
        rotate_left
        · intro W hW
          go_simp
          try with_reducible rfl
        try simp only [List.getElem_toArray, List.getElem_cons_zero, List.getElem_cons_succ, Act.put, List.setIfInBounds_toArray, List.set_cons_zero, List.set_cons_succ]
        refine anyC_one (i := 5) (by kernel_rfl) (fun K hK => ⟨_, rfl, by kernel_rfl, ?_⟩)
        go_simp
        refine (contains_any G_12.out (1 + (k : Int)) (by have := HTl.out; omega)).mono ?_
        rintro e w9 ⟨rfl, rfl⟩
        rw [HL2.out]
        refine hK _ _ (And.intro X_12.out (And.intro S_12.out (And.intro C_12.out Y_12.out))) ?_
        clear hK K
        try simp only [List.getElem_toArray, List.getElem_cons_zero, List.getElem_cons_succ, Act.put, List.setIfInBounds_toArray, List.set_cons_zero, List.set_cons_succ]
        refine anyC_one (i := 10) (by kernel_rfl) (fun K hK => ⟨_, rfl, by kernel_rfl, ?_⟩)
        go_simp
        refine (HIk.out _ _ I_12.out).mono ?_
        rintro e w10 ⟨v10, rfl, hv10, hb10⟩
        have hbl10 := Lib.hid (hbl9.out.trans (hb10.mono hbl9.out.size))
        have hsh := hv10.shape
        rw [HZ.out] at hsh
        obtain ⟨A10, c10, rfl⟩ : ∃ A10 c10, v10 = .slice A10 0 c10 := by
          rcases hsh with ⟨rfl, e0⟩ | ⟨g, off, cap10, rfl, _⟩
          · have h0 := HZ.out
            rw [e0] at h0
            exact ⟨none, 0, rfl⟩
          · exact ⟨_, _, rfl⟩
        have B_13 := Lib.hid (B_12.out.trans (hb10.mono B_12.out.size))
        have X_13 := Lib.hid (X_12.out.below hb10 X_12.out.lt)
        have S_13 := Lib.hid (S_12.out.below hb10 S_12.out.lt)
        have C_13 := Lib.hid (C_12.out.below hb10 C_12.out.lt)
        have U_13 := Lib.hid ((U_12.out.below hb10 (Nat.le_refl _)).mono hb10.size)
        have R_13 := Lib.hid ((R_12.out.below hb10 (Nat.le_refl _)).mono hb10.size)
        have Y_13 := Lib.hid (Y_12.out.below hb10 Y_12.out.lt)
        have N_13 := Lib.hid ((N_12.out.below hb10 (Nat.le_refl _)).mono hb10.size)
        have I_13 := Lib.hid ((I_12.out.below hb10 (Nat.le_refl _)).mono hb10.size)
        have G_13 := Lib.hid ((G_12.out.below hb10 (Nat.le_refl _)).mono hb10.size)
        clear B_12 X_12 S_12 C_12 U_12 R_12 Y_12 N_12 I_12 G_12 hb10 hv10 hsh
        refine hK _ _ (And.intro X_13.out (And.intro S_13.out (And.intro C_13.out Y_13.out))) ?_
        clear hK K
        try simp only [List.getElem_toArray, List.getElem_cons_zero, List.getElem_cons_succ, Act.put, List.setIfInBounds_toArray, List.set_cons_zero, List.set_cons_succ]
        refine anyC_take (i := 11) (v := ?_) rfl (by kernel_rfl) (by kernel_rfl) (by kernel_rfl) (fun _ _ _ h => h) (And.intro X_13.out (And.intro S_13.out (And.intro C_13.out Y_13.out))) (Or.inl ⟨by rfl, ?_⟩) ?_
        rotate_left
        · intro W hW
          go_simp
          try with_reducible rfl
        try simp only [List.getElem_toArray, List.getElem_cons_zero, List.getElem_cons_succ, Act.put, List.setIfInBounds_toArray, List.set_cons_zero, List.set_cons_succ]
        refine anyC_take (i := 12) (v := ?_) rfl (by kernel_rfl) (by kernel_rfl) (by kernel_rfl) (fun _ _ _ h => h) (And.intro X_13.out (And.intro S_13.out (And.intro C_13.out Y_13.out))) (Or.inl ⟨by rfl, ?_⟩) ?_
        rotate_left
        · intro W hW
          go_simp
          try with_reducible rfl
        try simp only [List.getElem_toArray, List.getElem_cons_zero, List.getElem_cons_succ, Act.put, List.setIfInBounds_toArray, List.set_cons_zero, List.set_cons_succ]
        refine anyC_take (i := 13) (v := ?_) rfl (by kernel_rfl) (by kernel_rfl) (by kernel_rfl) (fun _ _ _ h => h) (And.intro X_13.out (And.intro S_13.out (And.intro C_13.out Y_13.out))) (Or.inl ⟨by rfl, ?_⟩) ?_
        rotate_left
        · intro W hW
          go_simp
          try with_reducible rfl
        try simp only [List.getElem_toArray, List.getElem_cons_zero, List.getElem_cons_succ, Act.put, List.setIfInBounds_toArray, List.set_cons_zero, List.set_cons_succ]
        refine anyC_take (i := 14) (v := ?_) rfl (by kernel_rfl) (by kernel_rfl) (by kernel_rfl) (fun _ _ _ h => h) (And.intro X_13.out (And.intro S_13.out (And.intro C_13.out Y_13.out))) (Or.inl ⟨by rfl, ?_⟩) ?_
        rotate_left
        · intro W hW
          go_simp
          try with_reducible rfl
        try simp only [List.getElem_toArray, List.getElem_cons_zero, List.getElem_cons_succ, Act.put, List.setIfInBounds_toArray, List.set_cons_zero, List.set_cons_succ]
        refine anyC_done (by kernel_rfl) ?_ _
        go_wp2_with fail
        go_roundw
        case rel => exact ⟨k + 1, by omega, by go_num, hbl10.out⟩
        case measure => simp [intOf]; omega
    · obtain rfl : k = st := by omega
      go_wp2_with fail
      refine (HA.out _).mono ?_
      rintro e wz ⟨rfl, hbz⟩
      have B_11 := Lib.hid (B_10.out.trans (hbz.mono B_10.out.size))
      have X_11 := Lib.hid (X_10.out.below hbz X_10.out.lt)
      have S_11 := Lib.hid (S_10.out.below hbz S_10.out.lt)
      have C_11 := Lib.hid (C_10.out.below hbz C_10.out.lt)
      have U_11 := Lib.hid ((U_10.out.below hbz (Nat.le_refl _)).mono hbz.size)
      have R_11 := Lib.hid ((R_10.out.below hbz (Nat.le_refl _)).mono hbz.size)
      have Y_11 := Lib.hid (Y_10.out.below hbz Y_10.out.lt)
      have N_11 := Lib.hid ((N_10.out.below hbz (Nat.le_refl _)).mono hbz.size)
      have I_11 := Lib.hid ((I_10.out.below hbz (Nat.le_refl _)).mono hbz.size)
      have G_11 := Lib.hid ((G_10.out.below hbz (Nat.le_refl _)).mono hbz.size)
      clear B_10 X_10 S_10 C_10 U_10 R_10 Y_10 N_10 I_10 G_10 hbz
      go_wp2_with fail
      refine (contains_any G_11.out 0 (by have := HTl.out; omega)).mono ?_
      rintro e w9 ⟨rfl, rfl⟩
      rw [HS2.out.2]
      go_wp2_with fail
      go_ret
      exact ⟨rfl, B_11.out⟩

set_option maxRecDepth 100000 in
set_option maxHeartbeats 6400000 in
theorem ss_unsel8 (a b : Nat) (sid : Int) (us : List Int) (tg mb : ByteArray) (items mode : Int) (sil : Bool) (fl : Int) (A D : Option Addr) (n cap nd cd : Nat) (l : List RB) (vu : Value) (w : World) (ha : a < 256) (hb : b < 256) (hU : U32 w w.heap.size vu us) (hR : RgL w w.heap.size (.slice A n cap) (l.map RB.rng)) (h0 : ∀ x ∈ us, 0 ≤ x ∧ x < 4294967296) (hlg : ¬ 60 < us.length) :
    Calls Tryz.prog 5 #[.agg #[.int .u8 a, .int .u8 b], .agg #[.int .i64 sid, .bool false, vu], .agg #[.string tg, .int .i64 8, .string mb, .slice A n cap, .int .i64 items, .int .i64 mode, .bool sil, .int .u8 fl, .slice D nd cd]] w fun e w' => e = .returned (.bool true) ∧ Below w.heap.size w w' := by
  obtain ⟨Au, cu, rfl, hcu1, hcu2⟩ := id hU
  have hRn : n = l.length := by
    obtain ⟨A', c', he, -⟩ := hR
    injection he with h1 h2 h3
    rw [h2, List.length_map]
  have hb0 : Below w.heap.size w (w.alloc (.cells #[.int .u8 a, .int .u8 b] 22)) := (Below.refl _ w).alloc (Nat.le_refl _) _
  have hb1 := hb0.alloc hb0.size (.cells #[.int .i64 sid, .bool false, .slice Au us.length cu] 25)
  have hb2 := hb1.alloc hb1.size (.cells #[.string tg, .int .i64 8, .string mb, .slice A n cap, .int .i64 items, .int .i64 mode, .bool sil, .int .u8 fl, .slice D nd cd] 30)
  have kx := ((Blk.made w 22 #[.int .u8 a, .int .u8 b]).past (.cells #[.int .i64 sid, .bool false, .slice Au us.length cu] 25)).past (.cells #[.string tg, .int .i64 8, .string mb, .slice A n cap, .int .i64 items, .int .i64 mode, .bool sil, .int .u8 fl, .slice D nd cd] 30)
  have ks := (Blk.made (w.alloc (.cells #[.int .u8 a, .int .u8 b] 22)) 25 #[.int .i64 sid, .bool false, .slice Au us.length cu]).past (.cells #[.string tg, .int .i64 8, .string mb, .slice A n cap, .int .i64 items, .int .i64 mode, .bool sil, .int .u8 fl, .slice D nd cd] 30)
  have kc := Blk.made ((w.alloc (.cells #[.int .u8 a, .int .u8 b] 22)).alloc (.cells #[.int .i64 sid, .bool false, .slice Au us.length cu] 25)) 30 #[.string tg, .int .i64 8, .string mb, .slice A n cap, .int .i64 items, .int .i64 mode, .bool sil, .int .u8 fl, .slice D nd cd]
  rw [World.size_alloc] at ks
  rw [World.size_alloc, World.size_alloc] at kc
  have hlay := layout_any a b ha hb
  obtain ⟨st, hst⟩ : ∃ st, lSt a = st := ⟨_, rfl⟩
  obtain ⟨ss, hss⟩ : ∃ ss, lSs b = ss := ⟨_, rfl⟩
  have hs1 : 0 < st ∧ st ≤ 16 := hst ▸ lSt_pos a
  have hs2 : ss ≤ 16 := hss ▸ lSs_le b
  rw [hst, hss] at hlay
  have HY := Lib.hid hlay
  have HA := Lib.hid (fun W => alive_any W)
  have HF := Lib.hid (fun W => fewc_any tg mb 8 items mode sil fl A D n cap nd cd W)
  obtain ⟨f, hf⟩ : ∃ f, fewC tg mb n nd = f := ⟨_, rfl⟩
  have hfl : f = true → mb.size ≤ 300 ∧ n ≤ 60 := fun h => by
    rw [h] at hf
    unfold fewC at hf
    simp only [Bool.and_eq_true, decide_eq_true_eq] at hf
    exact ⟨hf.2.1, hf.2.2.1⟩
  rw [hf] at HF
  clear hf hst hss hlay
  have B_0 := Lib.hid hb2
  have X_0 := Lib.hid kx
  have S_0 := Lib.hid ks
  have C_0 := Lib.hid kc
  have U_0 := Lib.hid ((hU.below hb2 (Nat.le_refl _)).mono hb2.size)
  have R_0 := Lib.hid ((hR.below hb2 (Nat.le_refl _)).mono hb2.size)
  have HP := Lib.hid (And.intro h0 (And.intro hRn hfl))
  clear hb0 hb1 hb2 kx ks kc hU hR h0 hRn hfl hcu1 hcu2
  obtain ⟨m, hm⟩ : ∃ m, us.length = m := ⟨_, rfl⟩
  have HM := Lib.hid hm
  rw [hm] at B_0 X_0 S_0 C_0 U_0 R_0 ⊢
  clear hm
  have hlg1 : ¬ ((60 : Int) < m) := by have := HM.out; omega
  have hlg2 : decide ((60 : Int) < m) = false := decide_eq_false hlg1
  clear hlg
  cases f
  · go_enter Tryz.func5, Tryz.ntmps5
    go_wp2_with fail
    refine (HF.out _).mono ?_
    rintro e w1 ⟨rfl, hb1⟩
    have B_1 := Lib.hid (B_0.out.trans (hb1.mono B_0.out.size))
    have X_1 := Lib.hid (X_0.out.below hb1 X_0.out.lt)
    have S_1 := Lib.hid (S_0.out.below hb1 S_0.out.lt)
    have C_1 := Lib.hid (C_0.out.below hb1 C_0.out.lt)
    have U_1 := Lib.hid ((U_0.out.below hb1 (Nat.le_refl _)).mono hb1.size)
    have R_1 := Lib.hid ((R_0.out.below hb1 (Nat.le_refl _)).mono hb1.size)
    clear B_0 X_0 S_0 C_0 U_0 R_0 hb1
    have s1 : w1.cell? ⟨w.heap.size + 1, 1, none⟩ = some (.bool false) := S_1.out.cell 1
    have s2 : w1.cell? ⟨w.heap.size + 1, 2, none⟩ = some (.slice Au m cu) := S_1.out.cell 2
    have c1 : w1.cell? ⟨w.heap.size + 1 + 1, 1, none⟩ = some (.int .i64 8) := C_1.out.cell 1
    have c1b : w1.cell? ⟨w.heap.size + 2, 1, none⟩ = some (.int .i64 8) := C_1.out.cell 1
    go_wp2_with fail
    refine (HA.out _).mono ?_
    rintro e wz ⟨rfl, hbz⟩
    have B_2 := Lib.hid (B_1.out.trans (hbz.mono B_1.out.size))
    have X_2 := Lib.hid (X_1.out.below hbz X_1.out.lt)
    have S_2 := Lib.hid (S_1.out.below hbz S_1.out.lt)
    have C_2 := Lib.hid (C_1.out.below hbz C_1.out.lt)
    have U_2 := Lib.hid ((U_1.out.below hbz (Nat.le_refl _)).mono hbz.size)
    have R_2 := Lib.hid ((R_1.out.below hbz (Nat.le_refl _)).mono hbz.size)
    clear B_1 X_1 S_1 C_1 U_1 R_1 hbz
    go_wp2_with fail
    go_ret
    exact ⟨rfl, B_2.out⟩
  · go_enter Tryz.func5, Tryz.ntmps5
    go_wp2_with fail
    refine (HF.out _).mono ?_
    rintro e w1 ⟨rfl, hb1⟩
    have B_1 := Lib.hid (B_0.out.trans (hb1.mono B_0.out.size))
    have X_1 := Lib.hid (X_0.out.below hb1 X_0.out.lt)
    have S_1 := Lib.hid (S_0.out.below hb1 S_0.out.lt)
    have C_1 := Lib.hid (C_0.out.below hb1 C_0.out.lt)
    have U_1 := Lib.hid ((U_0.out.below hb1 (Nat.le_refl _)).mono hb1.size)
    have R_1 := Lib.hid ((R_0.out.below hb1 (Nat.le_refl _)).mono hb1.size)
    clear B_0 X_0 S_0 C_0 U_0 R_0 hb1
    have s1 : w1.cell? ⟨w.heap.size + 1, 1, none⟩ = some (.bool false) := S_1.out.cell 1
    have s2 : w1.cell? ⟨w.heap.size + 1, 2, none⟩ = some (.slice Au m cu) := S_1.out.cell 2
    have c1 : w1.cell? ⟨w.heap.size + 1 + 1, 1, none⟩ = some (.int .i64 8) := C_1.out.cell 1
    have c1b : w1.cell? ⟨w.heap.size + 2, 1, none⟩ = some (.int .i64 8) := C_1.out.cell 1
    go_wp2_with fail
    refine (HA.out _).mono ?_
    rintro e wz ⟨rfl, hbz⟩
    have B_2 := Lib.hid (B_1.out.trans (hbz.mono B_1.out.size))
    have X_2 := Lib.hid (X_1.out.below hbz X_1.out.lt)
    have S_2 := Lib.hid (S_1.out.below hbz S_1.out.lt)
    have C_2 := Lib.hid (C_1.out.below hbz C_1.out.lt)
    have U_2 := Lib.hid ((U_1.out.below hbz (Nat.le_refl _)).mono hbz.size)
    have R_2 := Lib.hid ((R_1.out.below hbz (Nat.le_refl _)).mono hbz.size)
    clear B_1 X_1 S_1 C_1 U_1 R_1 hbz
    go_wp2_with fail
    go_ret
    exact ⟨rfl, B_2.out⟩

set_option maxRecDepth 100000 in
set_option maxHeartbeats 6400000 in
theorem ss_main8 (a b : Nat) (sid : Int) (us : List Int) (tg mb : ByteArray) (items mode : Int) (sil : Bool) (fl : Int) (A D : Option Addr) (n cap nd cd : Nat) (l : List RB) (vu : Value) (w : World) (ha : a < 256) (hb : b < 256) (hU : U32 w w.heap.size vu us) (hR : RgL w w.heap.size (.slice A n cap) (l.map RB.rng)) (h0 : ∀ x ∈ us, 0 ≤ x ∧ x < 4294967296) (hfew : fewC tg mb n nd = true) (hlg : ¬ 60 < us.length) :
    Calls Tryz.prog 5 #[.agg #[.int .u8 a, .int .u8 b], .agg #[.int .i64 sid, .bool true, vu], .agg #[.string tg, .int .i64 8, .string mb, .slice A n cap, .int .i64 items, .int .i64 mode, .bool sil, .int .u8 fl, .slice D nd cd]] w fun e w' => e = .returned (.bool true) ∧ Below w.heap.size w w' := by
  obtain ⟨Au, cu, rfl, hcu1, hcu2⟩ := id hU
  have hRn : n = l.length := by
    obtain ⟨A', c', he, -⟩ := hR
    injection he with h1 h2 h3
    rw [h2, List.length_map]
  have hb0 : Below w.heap.size w (w.alloc (.cells #[.int .u8 a, .int .u8 b] 22)) := (Below.refl _ w).alloc (Nat.le_refl _) _
  have hb1 := hb0.alloc hb0.size (.cells #[.int .i64 sid, .bool true, .slice Au us.length cu] 25)
  have hb2 := hb1.alloc hb1.size (.cells #[.string tg, .int .i64 8, .string mb, .slice A n cap, .int .i64 items, .int .i64 mode, .bool sil, .int .u8 fl, .slice D nd cd] 30)
  have kx := ((Blk.made w 22 #[.int .u8 a, .int .u8 b]).past (.cells #[.int .i64 sid, .bool true, .slice Au us.length cu] 25)).past (.cells #[.string tg, .int .i64 8, .string mb, .slice A n cap, .int .i64 items, .int .i64 mode, .bool sil, .int .u8 fl, .slice D nd cd] 30)
  have ks := (Blk.made (w.alloc (.cells #[.int .u8 a, .int .u8 b] 22)) 25 #[.int .i64 sid, .bool true, .slice Au us.length cu]).past (.cells #[.string tg, .int .i64 8, .string mb, .slice A n cap, .int .i64 items, .int .i64 mode, .bool sil, .int .u8 fl, .slice D nd cd] 30)
  have kc := Blk.made ((w.alloc (.cells #[.int .u8 a, .int .u8 b] 22)).alloc (.cells #[.int .i64 sid, .bool true, .slice Au us.length cu] 25)) 30 #[.string tg, .int .i64 8, .string mb, .slice A n cap, .int .i64 items, .int .i64 mode, .bool sil, .int .u8 fl, .slice D nd cd]
  rw [World.size_alloc] at ks
  rw [World.size_alloc, World.size_alloc] at kc
  have hlay := layout_any a b ha hb
  obtain ⟨st, hst⟩ : ∃ st, lSt a = st := ⟨_, rfl⟩
  obtain ⟨ss, hss⟩ : ∃ ss, lSs b = ss := ⟨_, rfl⟩
  have hs1 : 0 < st ∧ st ≤ 16 := hst ▸ lSt_pos a
  have hs2 : ss ≤ 16 := hss ▸ lSs_le b
  rw [hst, hss] at hlay
  have HY := Lib.hid hlay
  have HA := Lib.hid (fun W => alive_any W)
  have HF := Lib.hid (fun W => fewc_any tg mb 8 items mode sil fl A D n cap nd cd W)
  obtain ⟨f, hf⟩ : ∃ f, fewC tg mb n nd = f := ⟨_, rfl⟩
  have hfl : f = true → mb.size ≤ 300 ∧ n ≤ 60 := fun h => by
    rw [h] at hf
    unfold fewC at hf
    simp only [Bool.and_eq_true, decide_eq_true_eq] at hf
    exact ⟨hf.2.1, hf.2.2.1⟩
  rw [hf] at HF
  rw [hf] at hfew
  subst hfew
  clear hf hst hss hlay
  have B_0 := Lib.hid hb2
  have X_0 := Lib.hid kx
  have S_0 := Lib.hid ks
  have C_0 := Lib.hid kc
  have U_0 := Lib.hid ((hU.below hb2 (Nat.le_refl _)).mono hb2.size)
  have R_0 := Lib.hid ((hR.below hb2 (Nat.le_refl _)).mono hb2.size)
  have HP := Lib.hid (And.intro h0 (And.intro hRn hfl))
  clear hb0 hb1 hb2 kx ks kc hU hR h0 hRn hfl hcu1 hcu2
  obtain ⟨m, hm⟩ : ∃ m, us.length = m := ⟨_, rfl⟩
  have HM := Lib.hid hm
  rw [hm] at B_0 X_0 S_0 C_0 U_0 R_0 ⊢
  clear hm
  have hlg1 : ¬ ((60 : Int) < m) := by have := HM.out; omega
  have hlg2 : decide ((60 : Int) < m) = false := decide_eq_false hlg1
  have hul : us.length ≤ 60 := by omega
  have hsr : (srtU us).length ≤ 60 := Nat.le_trans (srtU_len us) hul
  have HFr := Lib.hid (fun (p : Option Addr) (hp : p.isSome = true) W (hV : VwR W W.heap.size p (srtU us)) (hR : RgL W W.heap.size (.slice A n cap) (l.map RB.rng)) => planfor_any st ss (by omega) (by omega) hs1.1 sid p true hp (srtU us) l tg mb 8 items mode sil fl A D n cap nd cd (HP.out.2.2 rfl).1 W hV hR hsr (by have := HP.out.2.1; have := (HP.out.2.2 rfl).2; omega) (fun x hx => HP.out.1 x (srtU_mem.1 hx).1))
  have HLk := Lib.hid (fun W (hU : U32 W W.heap.size (.slice Au m cu) us) => look_any us sid true (.slice Au m cu) W hU hul (fun x hx => (HP.out.1 x hx).1))
  have HNw := Lib.hid (fun W (hU : U32 W W.heap.size (.slice Au m cu) us) => rnew_any us (.slice Au m cu) W hU (by omega))
  have HUi := Lib.hid (fun vv W (hV : U32 W W.heap.size vv (srtU us)) (hR : RgL W W.heap.size (.slice A n cap) (l.map RB.rng)) => ref_uids (srtU us) vv (l.map RB.rng) (.slice A n cap) W hV hR (by omega) (by rw [List.length_map]; have := HP.out.2.1; have := (HP.out.2.2 rfl).2; omega))
  have HTl : Hid ((forL st ss sid (some (srtU us)) 8 (inboxB mb) (l.map RB.rng) (marksB items)).length ≤ 1000) := Lib.hid (forL_len (by omega) (by omega) (fun vl h => by injection h with h; rw [← h]; exact hsr))
  have HUl : Hid ((uidsOf (srtU us) (l.map RB.rng)).length ≤ 60) := Lib.hid (Nat.le_trans uids_le hsr)
  have HUb := Lib.hid (uids_in (vl := srtU us) (l := l.map RB.rng) (fun x hx => HP.out.1 x (srtU_mem.1 hx).1))
  have HSt := Lib.hid (fun (k : Nat) W (hk : k < st) => stripe_yes st ss k (by omega) (by omega) W)
  have HIn := Lib.hid (fun (t : Int) v W (hU : U32 W W.heap.size v (uidsOf (srtU us) (l.map RB.rng))) => in_any st hs1.1 (by omega) t (uidsOf (srtU us) (l.map RB.rng)) v W hU (by have := HUl.out; omega) HUb.out)
  have HSL := Lib.hid (fun (us t : List Int) (ht : ∀ x ∈ t, (st : Int) < x) => stripes_law hs1.1 us t ht)
  have HBad := Lib.hid (fun h => ssFor_bad (st := st) (ss := ss) (sid := sid) (vl := srtU us) (show ((8 : Int) = 7 ∨ (8 : Int) = 8) by decide) (ib := inboxB mb) (set := l.map RB.rng) (mk := marksB items) h)
  have HGood := Lib.hid (fun hid hv => ssFor_good (st := st) (ss := ss) (sid := sid) hid (vl := srtU us) (show ((8 : Int) = 7 ∨ (8 : Int) = 8) by decide) (ib := inboxB mb) (set := l.map RB.rng) (mk := marksB items) hv)
  obtain ⟨T, hT⟩ : ∃ T, forL st ss sid (some (srtU us)) 8 (inboxB mb) (l.map RB.rng) (marksB items) = T := ⟨_, rfl⟩
  simp only [if_true] at HFr HLk
  rw [hT] at HFr HTl HBad HGood
  obtain ⟨ok, hok⟩ : ∃ ok, validB (srtU us).length (l.map RB.rng) = ok := ⟨_, rfl⟩
  rw [hok] at HUi HBad HGood
  obtain ⟨uu, huu⟩ : ∃ uu, uidsOf (srtU us) (l.map RB.rng) = uu := ⟨_, rfl⟩
  rw [huu] at HUi HUl HIn HGood
  have hstI : (st : Int) ≤ 16 := by omega
  have hst0 : 0 < (st : Int) := by omega
  clear hT hok huu HUb hul hsr hlg hs2
  go_enter Tryz.func5, Tryz.ntmps5
  go_wp2_with fail
  refine (HF.out _).mono ?_
  rintro e w1 ⟨rfl, hb1⟩
  have B_1 := Lib.hid (B_0.out.trans (hb1.mono B_0.out.size))
  have X_1 := Lib.hid (X_0.out.below hb1 X_0.out.lt)
  have S_1 := Lib.hid (S_0.out.below hb1 S_0.out.lt)
  have C_1 := Lib.hid (C_0.out.below hb1 C_0.out.lt)
  have U_1 := Lib.hid ((U_0.out.below hb1 (Nat.le_refl _)).mono hb1.size)
  have R_1 := Lib.hid ((R_0.out.below hb1 (Nat.le_refl _)).mono hb1.size)
  clear B_0 X_0 S_0 C_0 U_0 R_0 hb1
  have s1 : w1.cell? ⟨w.heap.size + 1, 1, none⟩ = some (.bool true) := S_1.out.cell 1
  have s2 : w1.cell? ⟨w.heap.size + 1, 2, none⟩ = some (.slice Au m cu) := S_1.out.cell 2
  have c1 : w1.cell? ⟨w.heap.size + 1 + 1, 1, none⟩ = some (.int .i64 8) := C_1.out.cell 1
  have c1b : w1.cell? ⟨w.heap.size + 2, 1, none⟩ = some (.int .i64 8) := C_1.out.cell 1
  have x0 : w1.cell? ⟨w.heap.size, 0, none⟩ = some (.int .u8 a) := X_1.out.cell 0
  have x1 : w1.cell? ⟨w.heap.size, 1, none⟩ = some (.int .u8 b) := X_1.out.cell 1
  go_wp2_with fail
  refine (HY.out _).mono ?_
  rintro e w2 ⟨rfl, hb2⟩
  have B_2 := Lib.hid (B_1.out.trans (hb2.mono B_1.out.size))
  have X_2 := Lib.hid (X_1.out.below hb2 X_1.out.lt)
  have S_2 := Lib.hid (S_1.out.below hb2 S_1.out.lt)
  have C_2 := Lib.hid (C_1.out.below hb2 C_1.out.lt)
  have U_2 := Lib.hid ((U_1.out.below hb2 (Nat.le_refl _)).mono hb2.size)
  have R_2 := Lib.hid ((R_1.out.below hb2 (Nat.le_refl _)).mono hb2.size)
  clear B_1 X_1 S_1 C_1 U_1 R_1 hb2 s1 s2 c1 c1b x0 x1
  have hbl : Below w2.heap.size w2 (w2.alloc (.cells #[.int .i64 st, .int .i64 ss] 34)) := (Below.refl _ _).alloc (Nat.le_refl _) _
  have B_3 := Lib.hid (B_2.out.trans (hbl.mono B_2.out.size))
  have X_3 := Lib.hid (X_2.out.below hbl X_2.out.lt)
  have S_3 := Lib.hid (S_2.out.below hbl S_2.out.lt)
  have C_3 := Lib.hid (C_2.out.below hbl C_2.out.lt)
  have U_3 := Lib.hid ((U_2.out.below hbl (Nat.le_refl _)).mono hbl.size)
  have R_3 := Lib.hid ((R_2.out.below hbl (Nat.le_refl _)).mono hbl.size)
  have Y_3 := Lib.hid (Blk.made w2 34 #[.int .i64 st, .int .i64 ss])
  clear B_2 X_2 S_2 C_2 U_2 R_2 hbl
  go_upto_region 4 with fail
  have hbw : Below (w2.alloc (.cells #[.int .i64 st, .int .i64 ss] 34)).heap.size (w2.alloc (.cells #[.int .i64 st, .int .i64 ss] 34)) (w2.alloc (.cells #[.int .i64 st, .int .i64 ss] 34)).drew := Below.drew (Below.refl _ _)
  have B_4 := Lib.hid (B_3.out.trans (hbw.mono B_3.out.size))
  have X_4 := Lib.hid (X_3.out.below hbw X_3.out.lt)
  have S_4 := Lib.hid (S_3.out.below hbw S_3.out.lt)
  have C_4 := Lib.hid (C_3.out.below hbw C_3.out.lt)
  have U_4 := Lib.hid ((U_3.out.below hbw (Nat.le_refl _)).mono hbw.size)
  have R_4 := Lib.hid ((R_3.out.below hbw (Nat.le_refl _)).mono hbw.size)
  have Y_4 := Lib.hid (Y_3.out.below hbw Y_3.out.lt)
  clear B_3 X_3 S_3 C_3 U_3 R_3 Y_3 hbw
  refine region_anyC (fun W => Blk W w.heap.size 22 #[.int .u8 a, .int .u8 b] ∧ Blk W (w.heap.size + 1) 25 #[.int .i64 sid, .bool true, .slice Au m cu] ∧ Blk W (w.heap.size + 1 + 1) 30 #[.string tg, .int .i64 8, .string mb, .slice A n cap, .int .i64 items, .int .i64 mode, .bool sil, .int .u8 fl, .slice D nd cd] ∧ Blk W w2.heap.size 34 #[.int .i64 st, .int .i64 ss]) (by kernel_rfl) ?_
  refine anyC_take (i := 0) (v := ?_) rfl (by kernel_rfl) (by kernel_rfl) (by kernel_rfl) (fun _ _ _ h => h) (And.intro X_4.out (And.intro S_4.out (And.intro C_4.out Y_4.out))) (Or.inl ⟨by rfl, ?_⟩) ?_
  rotate_left
  · intro W hW
    go_simp
    try with_reducible rfl
  try simp only [List.getElem_toArray, List.getElem_cons_zero, List.getElem_cons_succ, Act.put, List.setIfInBounds_toArray, List.set_cons_zero, List.set_cons_succ]
  refine anyC_take (i := 1) (v := ?_) rfl (by kernel_rfl) (by kernel_rfl) (by kernel_rfl) (fun _ _ _ h => h) (And.intro X_4.out (And.intro S_4.out (And.intro C_4.out Y_4.out))) (Or.inl ⟨by rfl, ?_⟩) ?_
  rotate_left
  · intro W hW
    have s2 : W.cell? ⟨w.heap.size + 1, 2, none⟩ = some (.slice Au m cu) := hW.2.1.cell 2
    go_simp
    try with_reducible rfl
  try simp only [List.getElem_toArray, List.getElem_cons_zero, List.getElem_cons_succ, Act.put, List.setIfInBounds_toArray, List.set_cons_zero, List.set_cons_succ]
  refine anyC_take (i := 3) (v := ?_) rfl (by kernel_rfl) (by kernel_rfl) (by kernel_rfl) (fun _ _ _ h => h) (And.intro X_4.out (And.intro S_4.out (And.intro C_4.out Y_4.out))) (Or.inl ⟨by rfl, ?_⟩) ?_
  rotate_left
  · intro W hW
    go_simp
    try with_reducible rfl
  try simp only [List.getElem_toArray, List.getElem_cons_zero, List.getElem_cons_succ, Act.put, List.setIfInBounds_toArray, List.set_cons_zero, List.set_cons_succ]
  refine anyC_take (i := 4) (v := ?_) rfl (by kernel_rfl) (by kernel_rfl) (by kernel_rfl) (fun _ _ _ h => h) (And.intro X_4.out (And.intro S_4.out (And.intro C_4.out Y_4.out))) (Or.inl ⟨by rfl, ?_⟩) ?_
  rotate_left
  · intro W hW
    have c3 : W.cell? ⟨w.heap.size + 1 + 1, 3, none⟩ = some (.slice A n cap) := hW.2.2.1.cell 3
    go_simp
    try with_reducible rfl
  try simp only [List.getElem_toArray, List.getElem_cons_zero, List.getElem_cons_succ, Act.put, List.setIfInBounds_toArray, List.set_cons_zero, List.set_cons_succ]
  refine anyC_one (i := 2) (by kernel_rfl) (fun K hK => ⟨_, rfl, by kernel_rfl, ?_⟩)
  go_simp
  refine (HNw.out _ U_4.out).mono ?_
  rintro e w4 ⟨v4, rfl, hv4, hb4⟩
  have B_5 := Lib.hid (B_4.out.trans (hb4.mono B_4.out.size))
  have X_5 := Lib.hid (X_4.out.below hb4 X_4.out.lt)
  have S_5 := Lib.hid (S_4.out.below hb4 S_4.out.lt)
  have C_5 := Lib.hid (C_4.out.below hb4 C_4.out.lt)
  have U_5 := Lib.hid ((U_4.out.below hb4 (Nat.le_refl _)).mono hb4.size)
  have R_5 := Lib.hid ((R_4.out.below hb4 (Nat.le_refl _)).mono hb4.size)
  have Y_5 := Lib.hid (Y_4.out.below hb4 Y_4.out.lt)
  have N_5 := Lib.hid (U32.of_buf hv4)
  clear B_4 X_4 S_4 C_4 U_4 R_4 Y_4 hb4 hv4
  refine hK _ _ (And.intro X_5.out (And.intro S_5.out (And.intro C_5.out Y_5.out))) ?_
  clear hK K
  try simp only [List.getElem_toArray, List.getElem_cons_zero, List.getElem_cons_succ, Act.put, List.setIfInBounds_toArray, List.set_cons_zero, List.set_cons_succ]
  refine anyC_one (i := 5) (by kernel_rfl) (fun K hK => ⟨_, rfl, by kernel_rfl, ?_⟩)
  go_simp
  refine (HUi.out v4 _ N_5.out R_5.out).mono ?_
  rintro e w5 ⟨v5, rfl, hv5, hb5⟩
  have B_6 := Lib.hid (B_5.out.trans (hb5.mono B_5.out.size))
  have X_6 := Lib.hid (X_5.out.below hb5 X_5.out.lt)
  have S_6 := Lib.hid (S_5.out.below hb5 S_5.out.lt)
  have C_6 := Lib.hid (C_5.out.below hb5 C_5.out.lt)
  have U_6 := Lib.hid ((U_5.out.below hb5 (Nat.le_refl _)).mono hb5.size)
  have R_6 := Lib.hid ((R_5.out.below hb5 (Nat.le_refl _)).mono hb5.size)
  have Y_6 := Lib.hid (Y_5.out.below hb5 Y_5.out.lt)
  have N_6 := Lib.hid ((N_5.out.below hb5 (Nat.le_refl _)).mono hb5.size)
  have I_6 := Lib.hid (U32.of_buf hv5)
  clear B_5 X_5 S_5 C_5 U_5 R_5 Y_5 N_5 hb5 hv5
  refine hK _ _ (And.intro X_6.out (And.intro S_6.out (And.intro C_6.out Y_6.out))) ?_
  clear hK K
  try simp only [List.getElem_toArray, List.getElem_cons_zero, List.getElem_cons_succ, Act.put, List.setIfInBounds_toArray, List.set_cons_zero, List.set_cons_succ]
  refine anyC_take (i := 6) (v := ?_) rfl (by kernel_rfl) (by kernel_rfl) (by kernel_rfl) (fun _ _ _ h => h) (And.intro X_6.out (And.intro S_6.out (And.intro C_6.out Y_6.out))) (Or.inl ⟨by rfl, ?_⟩) ?_
  rotate_left
  · intro W hW
    go_simp
    try with_reducible rfl
  try simp only [List.getElem_toArray, List.getElem_cons_zero, List.getElem_cons_succ, Act.put, List.setIfInBounds_toArray, List.set_cons_zero, List.set_cons_succ]
  refine anyC_take (i := 7) (v := ?_) rfl (by kernel_rfl) (by kernel_rfl) (by kernel_rfl) (fun _ _ _ h => h) (And.intro X_6.out (And.intro S_6.out (And.intro C_6.out Y_6.out))) (Or.inl ⟨by rfl, ?_⟩) ?_
  rotate_left
  · intro W hW
    go_simp
    try with_reducible rfl
  try simp only [List.getElem_toArray, List.getElem_cons_zero, List.getElem_cons_succ, Act.put, List.setIfInBounds_toArray, List.set_cons_zero, List.set_cons_succ]
  refine anyC_take (i := 8) (v := ?_) rfl (by kernel_rfl) (by kernel_rfl) (by kernel_rfl) (fun _ _ _ h => h) (And.intro X_6.out (And.intro S_6.out (And.intro C_6.out Y_6.out))) (Or.inl ⟨by rfl, ?_⟩) ?_
  rotate_left
  · intro W hW
    go_simp
    try with_reducible rfl
  try simp only [List.getElem_toArray, List.getElem_cons_zero, List.getElem_cons_succ, Act.put, List.setIfInBounds_toArray, List.set_cons_zero, List.set_cons_succ]
  refine anyC_take (i := 9) (v := ?_) rfl (by kernel_rfl) (by kernel_rfl) (by kernel_rfl) (fun _ _ _ h => h) (And.intro X_6.out (And.intro S_6.out (And.intro C_6.out Y_6.out))) (Or.inl ⟨by rfl, ?_⟩) ?_
  rotate_left
  · intro W hW
    go_simp
    try with_reducible rfl
  try simp only [List.getElem_toArray, List.getElem_cons_zero, List.getElem_cons_succ, Act.put, List.setIfInBounds_toArray, List.set_cons_zero, List.set_cons_succ]
  refine anyC_take (i := 10) (v := ?_) rfl (by kernel_rfl) (by kernel_rfl) (by kernel_rfl) (fun _ _ _ h => h) (And.intro X_6.out (And.intro S_6.out (And.intro C_6.out Y_6.out))) (Or.inl ⟨by rfl, ?_⟩) ?_
  rotate_left
  · intro W hW
    go_simp
    try with_reducible rfl
  try simp only [List.getElem_toArray, List.getElem_cons_zero, List.getElem_cons_succ, Act.put, List.setIfInBounds_toArray, List.set_cons_zero, List.set_cons_succ]
  refine anyC_done (by kernel_rfl) ?_ _
  go_upto_region 5 with fail
  have hbw : Below w5.heap.size w5 w5.drew := Below.drew (Below.refl _ _)
  have B_7 := Lib.hid (B_6.out.trans (hbw.mono B_6.out.size))
  have X_7 := Lib.hid (X_6.out.below hbw X_6.out.lt)
  have S_7 := Lib.hid (S_6.out.below hbw S_6.out.lt)
  have C_7 := Lib.hid (C_6.out.below hbw C_6.out.lt)
  have U_7 := Lib.hid ((U_6.out.below hbw (Nat.le_refl _)).mono hbw.size)
  have R_7 := Lib.hid ((R_6.out.below hbw (Nat.le_refl _)).mono hbw.size)
  have Y_7 := Lib.hid (Y_6.out.below hbw Y_6.out.lt)
  have N_7 := Lib.hid ((N_6.out.below hbw (Nat.le_refl _)).mono hbw.size)
  have I_7 := Lib.hid ((I_6.out.below hbw (Nat.le_refl _)).mono hbw.size)
  clear B_6 X_6 S_6 C_6 U_6 R_6 Y_6 N_6 I_6 hbw
  refine region_anyC (fun W => Blk W w.heap.size 22 #[.int .u8 a, .int .u8 b] ∧ Blk W (w.heap.size + 1) 25 #[.int .i64 sid, .bool true, .slice Au m cu] ∧ Blk W (w.heap.size + 1 + 1) 30 #[.string tg, .int .i64 8, .string mb, .slice A n cap, .int .i64 items, .int .i64 mode, .bool sil, .int .u8 fl, .slice D nd cd] ∧ Blk W w2.heap.size 34 #[.int .i64 st, .int .i64 ss]) (by kernel_rfl) ?_
  refine anyC_take (i := 0) (v := ?_) rfl (by kernel_rfl) (by kernel_rfl) (by kernel_rfl) (fun _ _ _ h => h) (And.intro X_7.out (And.intro S_7.out (And.intro C_7.out Y_7.out))) (Or.inl ⟨by rfl, ?_⟩) ?_
  rotate_left
  · intro W hW
    have y0 : W.cell? ⟨w2.heap.size, 0, none⟩ = some (.int .i64 st) := hW.2.2.2.cell 0
    have y1 : W.cell? ⟨w2.heap.size, 1, none⟩ = some (.int .i64 ss) := hW.2.2.2.cell 1
    go_simp
    try with_reducible rfl
  try simp only [List.getElem_toArray, List.getElem_cons_zero, List.getElem_cons_succ, Act.put, List.setIfInBounds_toArray, List.set_cons_zero, List.set_cons_succ]
  refine anyC_take (i := 1) (v := ?_) rfl (by kernel_rfl) (by kernel_rfl) (by kernel_rfl) (fun _ _ _ h => h) (And.intro X_7.out (And.intro S_7.out (And.intro C_7.out Y_7.out))) (Or.inl ⟨by rfl, ?_⟩) ?_
  rotate_left
  · intro W hW
    go_simp
    try with_reducible rfl
  try simp only [List.getElem_toArray, List.getElem_cons_zero, List.getElem_cons_succ, Act.put, List.setIfInBounds_toArray, List.set_cons_zero, List.set_cons_succ]
  refine anyC_take (i := 2) (v := ?_) rfl (by kernel_rfl) (by kernel_rfl) (by kernel_rfl) (fun _ _ _ h => h) (And.intro X_7.out (And.intro S_7.out (And.intro C_7.out Y_7.out))) (Or.inl ⟨by rfl, ?_⟩) ?_
  rotate_left
  · intro W hW
    have s0 : W.cell? ⟨w.heap.size + 1, 0, none⟩ = some (.int .i64 sid) := hW.2.1.cell 0
    go_simp
    try with_reducible rfl
  try simp only [List.getElem_toArray, List.getElem_cons_zero, List.getElem_cons_succ, Act.put, List.setIfInBounds_toArray, List.set_cons_zero, List.set_cons_succ]
  refine anyC_take (i := 3) (v := ?_) rfl (by kernel_rfl) (by kernel_rfl) (by kernel_rfl) (fun _ _ _ h => h) (And.intro X_7.out (And.intro S_7.out (And.intro C_7.out Y_7.out))) (Or.inl ⟨by rfl, ?_⟩) ?_
  rotate_left
  · intro W hW
    have s0 : W.cell? ⟨w.heap.size + 1, 0, none⟩ = some (.int .i64 sid) := hW.2.1.cell 0
    have s1 : W.cell? ⟨w.heap.size + 1, 1, none⟩ = some (.bool true) := hW.2.1.cell 1
    have s2 : W.cell? ⟨w.heap.size + 1, 2, none⟩ = some (.slice Au m cu) := hW.2.1.cell 2
    go_simp
    try with_reducible rfl
  try simp only [List.getElem_toArray, List.getElem_cons_zero, List.getElem_cons_succ, Act.put, List.setIfInBounds_toArray, List.set_cons_zero, List.set_cons_succ]
  refine anyC_take (i := 5) (v := ?_) rfl (by kernel_rfl) (by kernel_rfl) (by kernel_rfl) (fun _ _ _ h => h) (And.intro X_7.out (And.intro S_7.out (And.intro C_7.out Y_7.out))) (Or.inl ⟨by rfl, ?_⟩) ?_
  rotate_left
  · intro W hW
    have c0 : W.cell? ⟨w.heap.size + 1 + 1, 0, none⟩ = some (.string tg) := hW.2.2.1.cell 0
    have c1 : W.cell? ⟨w.heap.size + 1 + 1, 1, none⟩ = some (.int .i64 8) := hW.2.2.1.cell 1
    have c2 : W.cell? ⟨w.heap.size + 1 + 1, 2, none⟩ = some (.string mb) := hW.2.2.1.cell 2
    have c3 : W.cell? ⟨w.heap.size + 1 + 1, 3, none⟩ = some (.slice A n cap) := hW.2.2.1.cell 3
    have c4 : W.cell? ⟨w.heap.size + 1 + 1, 4, none⟩ = some (.int .i64 items) := hW.2.2.1.cell 4
    have c5 : W.cell? ⟨w.heap.size + 1 + 1, 5, none⟩ = some (.int .i64 mode) := hW.2.2.1.cell 5
    have c6 : W.cell? ⟨w.heap.size + 1 + 1, 6, none⟩ = some (.bool sil) := hW.2.2.1.cell 6
    have c7 : W.cell? ⟨w.heap.size + 1 + 1, 7, none⟩ = some (.int .u8 fl) := hW.2.2.1.cell 7
    have c8 : W.cell? ⟨w.heap.size + 1 + 1, 8, none⟩ = some (.slice D nd cd) := hW.2.2.1.cell 8
    go_simp
    try with_reducible rfl
  try simp only [List.getElem_toArray, List.getElem_cons_zero, List.getElem_cons_succ, Act.put, List.setIfInBounds_toArray, List.set_cons_zero, List.set_cons_succ]
  refine anyC_one (i := 4) (by kernel_rfl) (fun K hK => ⟨_, rfl, by kernel_rfl, ?_⟩)
  go_simp
  refine (HLk.out _ U_7.out).mono ?_
  rintro e w6 ⟨p, rfl, hv6, hp, hb6⟩
  have B_8 := Lib.hid (B_7.out.trans (hb6.mono B_7.out.size))
  have X_8 := Lib.hid (X_7.out.below hb6 X_7.out.lt)
  have S_8 := Lib.hid (S_7.out.below hb6 S_7.out.lt)
  have C_8 := Lib.hid (C_7.out.below hb6 C_7.out.lt)
  have U_8 := Lib.hid ((U_7.out.below hb6 (Nat.le_refl _)).mono hb6.size)
  have R_8 := Lib.hid ((R_7.out.below hb6 (Nat.le_refl _)).mono hb6.size)
  have Y_8 := Lib.hid (Y_7.out.below hb6 Y_7.out.lt)
  have N_8 := Lib.hid ((N_7.out.below hb6 (Nat.le_refl _)).mono hb6.size)
  have I_8 := Lib.hid ((I_7.out.below hb6 (Nat.le_refl _)).mono hb6.size)
  have V_8 := Lib.hid (hv6)
  clear B_7 X_7 S_7 C_7 U_7 R_7 Y_7 N_7 I_7 hb6 hv6
  refine hK _ _ (And.intro X_8.out (And.intro S_8.out (And.intro C_8.out Y_8.out))) ?_
  clear hK K
  try simp only [List.getElem_toArray, List.getElem_cons_zero, List.getElem_cons_succ, Act.put, List.setIfInBounds_toArray, List.set_cons_zero, List.set_cons_succ]
  refine anyC_one (i := 6) (by kernel_rfl) (fun K hK => ⟨_, rfl, by kernel_rfl, ?_⟩)
  go_simp
  refine (HFr.out p hp _ V_8.out R_8.out).mono ?_
  rintro e w7 ⟨v7, rfl, hv7, hb7⟩
  have B_9 := Lib.hid (B_8.out.trans (hb7.mono B_8.out.size))
  have X_9 := Lib.hid (X_8.out.below hb7 X_8.out.lt)
  have S_9 := Lib.hid (S_8.out.below hb7 S_8.out.lt)
  have C_9 := Lib.hid (C_8.out.below hb7 C_8.out.lt)
  have U_9 := Lib.hid ((U_8.out.below hb7 (Nat.le_refl _)).mono hb7.size)
  have R_9 := Lib.hid ((R_8.out.below hb7 (Nat.le_refl _)).mono hb7.size)
  have Y_9 := Lib.hid (Y_8.out.below hb7 Y_8.out.lt)
  have N_9 := Lib.hid ((N_8.out.below hb7 (Nat.le_refl _)).mono hb7.size)
  have I_9 := Lib.hid ((I_8.out.below hb7 (Nat.le_refl _)).mono hb7.size)
  have V_9 := Lib.hid ((V_8.out.below hb7 (Nat.le_refl _)).mono hb7.size)
  have G_9 := Lib.hid (lb_rd hv7)
  clear B_8 X_8 S_8 C_8 U_8 R_8 Y_8 N_8 I_8 V_8 hb7 hv7
  refine hK _ _ (And.intro X_9.out (And.intro S_9.out (And.intro C_9.out Y_9.out))) ?_
  clear hK K
  try simp only [List.getElem_toArray, List.getElem_cons_zero, List.getElem_cons_succ, Act.put, List.setIfInBounds_toArray, List.set_cons_zero, List.set_cons_succ]
  refine anyC_take (i := 7) (v := ?_) rfl (by kernel_rfl) (by kernel_rfl) (by kernel_rfl) (fun _ _ _ h => h) (And.intro X_9.out (And.intro S_9.out (And.intro C_9.out Y_9.out))) (Or.inl ⟨by rfl, ?_⟩) ?_
  rotate_left
  · intro W hW
    go_simp
    try with_reducible rfl
  try simp only [List.getElem_toArray, List.getElem_cons_zero, List.getElem_cons_succ, Act.put, List.setIfInBounds_toArray, List.set_cons_zero, List.set_cons_succ]
  refine anyC_done (by kernel_rfl) ?_ _
  obtain ⟨Ag, cg, rfl, hcg, hcg2⟩ := id G_9.out
  clear hcg hcg2
  rw [List.length_map] at G_9 ⊢
  have s0 : w7.cell? ⟨w.heap.size + 1, 0, none⟩ = some (.int .i64 sid) := S_9.out.cell 0
  have y0 : w7.cell? ⟨w2.heap.size, 0, none⟩ = some (.int .i64 st) := Y_9.out.cell 0
  have y1 : w7.cell? ⟨w2.heap.size, 1, none⟩ = some (.int .i64 ss) := Y_9.out.cell 1
  cases ok with
  | false =>
    obtain rfl : T = [] := HBad.out (.inl rfl)
    rw [show ([] : List Int).length = 0 from rfl]
    go_wp2_with fail
    refine (HA.out _).mono ?_
    rintro e wz ⟨rfl, hbz⟩
    have B_10 := Lib.hid (B_9.out.trans (hbz.mono B_9.out.size))
    have X_10 := Lib.hid (X_9.out.below hbz X_9.out.lt)
    have S_10 := Lib.hid (S_9.out.below hbz S_9.out.lt)
    have C_10 := Lib.hid (C_9.out.below hbz C_9.out.lt)
    have U_10 := Lib.hid ((U_9.out.below hbz (Nat.le_refl _)).mono hbz.size)
    have R_10 := Lib.hid ((R_9.out.below hbz (Nat.le_refl _)).mono hbz.size)
    have Y_10 := Lib.hid (Y_9.out.below hbz Y_9.out.lt)
    have N_10 := Lib.hid ((N_9.out.below hbz (Nat.le_refl _)).mono hbz.size)
    have I_10 := Lib.hid ((I_9.out.below hbz (Nat.le_refl _)).mono hbz.size)
    have V_10 := Lib.hid ((V_9.out.below hbz (Nat.le_refl _)).mono hbz.size)
    have G_10 := Lib.hid ((G_9.out.below hbz (Nat.le_refl _)).mono hbz.size)
    clear B_9 X_9 S_9 C_9 U_9 R_9 Y_9 N_9 I_9 V_9 G_9 hbz
    go_wp2_with fail
    go_ret
    exact ⟨rfl, B_10.out⟩
  | true =>
  by_cases h1 : sid < 0
  · have h1d : decide (sid < 0) = true := decide_eq_true h1
    obtain rfl : T = [] := HBad.out (.inr (by omega))
    rw [show ([] : List Int).length = 0 from rfl]
    go_wp2_with fail
    refine (HA.out _).mono ?_
    rintro e wz ⟨rfl, hbz⟩
    have B_10 := Lib.hid (B_9.out.trans (hbz.mono B_9.out.size))
    have X_10 := Lib.hid (X_9.out.below hbz X_9.out.lt)
    have S_10 := Lib.hid (S_9.out.below hbz S_9.out.lt)
    have C_10 := Lib.hid (C_9.out.below hbz C_9.out.lt)
    have U_10 := Lib.hid ((U_9.out.below hbz (Nat.le_refl _)).mono hbz.size)
    have R_10 := Lib.hid ((R_9.out.below hbz (Nat.le_refl _)).mono hbz.size)
    have Y_10 := Lib.hid (Y_9.out.below hbz Y_9.out.lt)
    have N_10 := Lib.hid ((N_9.out.below hbz (Nat.le_refl _)).mono hbz.size)
    have I_10 := Lib.hid ((I_9.out.below hbz (Nat.le_refl _)).mono hbz.size)
    have V_10 := Lib.hid ((V_9.out.below hbz (Nat.le_refl _)).mono hbz.size)
    have G_10 := Lib.hid ((G_9.out.below hbz (Nat.le_refl _)).mono hbz.size)
    clear B_9 X_9 S_9 C_9 U_9 R_9 Y_9 N_9 I_9 V_9 G_9 hbz
    go_wp2_with fail
    go_ret
    exact ⟨rfl, B_10.out⟩
  by_cases h2 : (ss : Int) ≤ sid
  · have h1d : decide (sid < 0) = false := decide_eq_false h1
    have h2d : decide ((ss : Int) ≤ sid) = true := decide_eq_true h2
    obtain rfl : T = [] := HBad.out (.inr (by omega))
    rw [show ([] : List Int).length = 0 from rfl]
    go_wp2_with fail
    refine (HA.out _).mono ?_
    rintro e wz ⟨rfl, hbz⟩
    have B_10 := Lib.hid (B_9.out.trans (hbz.mono B_9.out.size))
    have X_10 := Lib.hid (X_9.out.below hbz X_9.out.lt)
    have S_10 := Lib.hid (S_9.out.below hbz S_9.out.lt)
    have C_10 := Lib.hid (C_9.out.below hbz C_9.out.lt)
    have U_10 := Lib.hid ((U_9.out.below hbz (Nat.le_refl _)).mono hbz.size)
    have R_10 := Lib.hid ((R_9.out.below hbz (Nat.le_refl _)).mono hbz.size)
    have Y_10 := Lib.hid (Y_9.out.below hbz Y_9.out.lt)
    have N_10 := Lib.hid ((N_9.out.below hbz (Nat.le_refl _)).mono hbz.size)
    have I_10 := Lib.hid ((I_9.out.below hbz (Nat.le_refl _)).mono hbz.size)
    have V_10 := Lib.hid ((V_9.out.below hbz (Nat.le_refl _)).mono hbz.size)
    have G_10 := Lib.hid ((G_9.out.below hbz (Nat.le_refl _)).mono hbz.size)
    clear B_9 X_9 S_9 C_9 U_9 R_9 Y_9 N_9 I_9 V_9 G_9 hbz
    go_wp2_with fail
    go_ret
    exact ⟨rfl, B_10.out⟩
  have h1d : decide (sid < 0) = false := decide_eq_false h1
  have h2d : decide ((ss : Int) ≤ sid) = false := decide_eq_false h2
  obtain ⟨t, ht, hTe⟩ := HGood.out (by omega) rfl
  have HSu := HSL.out uu t ht
  rw [← hTe] at HSu
  have HS2 := Lib.hid HSu
  clear HSu hTe ht t HSL HGood HBad
  obtain ⟨tl, htl⟩ : ∃ tl, T.length = tl := ⟨_, rfl⟩
  have HTn := Lib.hid htl
  rw [htl] at G_9 ⊢
  clear htl
  go_wp2_with fail
  go_loopw [79] (fun i wr => ∃ k : Nat, k ≤ st ∧ i = .int .i64 k ∧ Below w7.heap.size w7 wr) (fun i _ => st - (intOf i).toNat)
  case atStart => exact ⟨0, Nat.zero_le _, rfl, Below.refl _ _⟩
  case round =>
    obtain ⟨k, hk, rfl, hbel⟩ := hrel
    have hkI : (k : Int) ≤ st := by omega
    clear s0 y0 y1
    have HBL := Lib.hid hbel
    have B_10 := Lib.hid (B_9.out.trans (hbel.mono B_9.out.size))
    have X_10 := Lib.hid (X_9.out.below hbel X_9.out.lt)
    have S_10 := Lib.hid (S_9.out.below hbel S_9.out.lt)
    have C_10 := Lib.hid (C_9.out.below hbel C_9.out.lt)
    have U_10 := Lib.hid ((U_9.out.below hbel (Nat.le_refl _)).mono hbel.size)
    have R_10 := Lib.hid ((R_9.out.below hbel (Nat.le_refl _)).mono hbel.size)
    have Y_10 := Lib.hid (Y_9.out.below hbel Y_9.out.lt)
    have N_10 := Lib.hid ((N_9.out.below hbel (Nat.le_refl _)).mono hbel.size)
    have I_10 := Lib.hid ((I_9.out.below hbel (Nat.le_refl _)).mono hbel.size)
    have G_10 := Lib.hid ((G_9.out.below hbel (Nat.le_refl _)).mono hbel.size)
    clear hbel
    have y0 : wr.cell? ⟨w2.heap.size, 0, none⟩ = some (.int .i64 st) := Y_10.out.cell 0
    have y1 : wr.cell? ⟨w2.heap.size, 1, none⟩ = some (.int .i64 ss) := Y_10.out.cell 1
    by_cases hlt : k < st
    · have hltI : (k : Int) < st := by omega
      have HS1 := Lib.hid (HSt.out k wr hlt)
      have HLaw := Lib.hid (HS2.out.1 k hlt)
      go_wp2_with fail
      refine HS1.out.mono ?_
      rintro e w8 ⟨rfl, hb8⟩
      have hbl8 := Lib.hid (HBL.out.trans (hb8.mono HBL.out.size))
      have B_11 := Lib.hid (B_10.out.trans (hb8.mono B_10.out.size))
      have X_11 := Lib.hid (X_10.out.below hb8 X_10.out.lt)
      have S_11 := Lib.hid (S_10.out.below hb8 S_10.out.lt)
      have C_11 := Lib.hid (C_10.out.below hb8 C_10.out.lt)
      have U_11 := Lib.hid ((U_10.out.below hb8 (Nat.le_refl _)).mono hb8.size)
      have R_11 := Lib.hid ((R_10.out.below hb8 (Nat.le_refl _)).mono hb8.size)
      have Y_11 := Lib.hid (Y_10.out.below hb8 Y_10.out.lt)
      have N_11 := Lib.hid ((N_10.out.below hb8 (Nat.le_refl _)).mono hb8.size)
      have I_11 := Lib.hid ((I_10.out.below hb8 (Nat.le_refl _)).mono hb8.size)
      have G_11 := Lib.hid ((G_10.out.below hb8 (Nat.le_refl _)).mono hb8.size)
      clear B_10 X_10 S_10 C_10 U_10 R_10 Y_10 N_10 I_10 G_10 hb8 y0 y1
      go_upto_region 12 with fail
      have hbw : Below w8.heap.size w8 w8.drew := Below.drew (Below.refl _ _)
      have hbl9 := Lib.hid (hbl8.out.trans (hbw.mono hbl8.out.size))
      have B_12 := Lib.hid (B_11.out.trans (hbw.mono B_11.out.size))
      have X_12 := Lib.hid (X_11.out.below hbw X_11.out.lt)
      have S_12 := Lib.hid (S_11.out.below hbw S_11.out.lt)
      have C_12 := Lib.hid (C_11.out.below hbw C_11.out.lt)
      have U_12 := Lib.hid ((U_11.out.below hbw (Nat.le_refl _)).mono hbw.size)
      have R_12 := Lib.hid ((R_11.out.below hbw (Nat.le_refl _)).mono hbw.size)
      have Y_12 := Lib.hid (Y_11.out.below hbw Y_11.out.lt)
      have N_12 := Lib.hid ((N_11.out.below hbw (Nat.le_refl _)).mono hbw.size)
      have I_12 := Lib.hid ((I_11.out.below hbw (Nat.le_refl _)).mono hbw.size)
      have G_12 := Lib.hid ((G_11.out.below hbw (Nat.le_refl _)).mono hbw.size)
      clear B_11 X_11 S_11 C_11 U_11 R_11 Y_11 N_11 I_11 G_11 hbw
      obtain ⟨z, hz⟩ : ∃ z, (uu.filter fun u => decide (u % (st : Int) = (k : Int))).length = z := ⟨_, rfl⟩
      have HIk := Lib.hid (HIn.out (k : Int))
      have hzb : z ≤ 60 := by have := List.length_filter_le (fun u => decide (u % (st : Int) = (k : Int))) uu; have := HUl.out; omega
      rw [hz] at HLaw
      have HZ := Lib.hid hz
      clear hz
      by_cases hz0 : 0 < z
      · have hzI : (0 : Int) < z := by omega
        have hzd : decide ((0 : Int) < z) = true := decide_eq_true hzI
        have HL2 := Lib.hid (HLaw.out.trans (decide_eq_true hz0))
        refine region_anyC (fun W => Blk W w.heap.size 22 #[.int .u8 a, .int .u8 b] ∧ Blk W (w.heap.size + 1) 25 #[.int .i64 sid, .bool true, .slice Au m cu] ∧ Blk W (w.heap.size + 1 + 1) 30 #[.string tg, .int .i64 8, .string mb, .slice A n cap, .int .i64 items, .int .i64 mode, .bool sil, .int .u8 fl, .slice D nd cd] ∧ Blk W w2.heap.size 34 #[.int .i64 st, .int .i64 ss]) (by kernel_rfl) ?_
        refine anyC_take (i := 0) (v := ?_) rfl (by kernel_rfl) (by kernel_rfl) (by kernel_rfl) (fun _ _ _ h => h) (And.intro X_12.out (And.intro S_12.out (And.intro C_12.out Y_12.out))) (Or.inl ⟨by rfl, ?_⟩) ?_
        rotate_left
        · intro W hW
          go_simp
          try with_reducible rfl
        try simp only [List.getElem_toArray, List.getElem_cons_zero, List.getElem_cons_succ, Act.put, List.setIfInBounds_toArray, List.set_cons_zero, List.set_cons_succ]
        refine anyC_take (i := 1) (v := ?_) rfl (by kernel_rfl) (by kernel_rfl) (by kernel_rfl) (fun _ _ _ h => h) (And.intro X_12.out (And.intro S_12.out (And.intro C_12.out Y_12.out))) (Or.inl ⟨by rfl, ?_⟩) ?_
        rotate_left
        · intro W hW
          go_simp
          try with_reducible rfl
        try simp only [List.getElem_toArray, List.getElem_cons_zero, List.getElem_cons_succ, Act.put, List.setIfInBounds_toArray, List.set_cons_zero, List.set_cons_succ]
        refine anyC_take (i := 2) (v := ?_) rfl (by kernel_rfl) (by kernel_rfl) (by kernel_rfl) (fun _ _ _ h => h) (And.intro X_12.out (And.intro S_12.out (And.intro C_12.out Y_12.out))) (Or.inl ⟨by rfl, ?_⟩) ?_
        rotate_left
        · intro W hW
          go_simp
          try with_reducible rfl
        try simp only [List.getElem_toArray, List.getElem_cons_zero, List.getElem_cons_succ, Act.put, List.setIfInBounds_toArray, List.set_cons_zero, List.set_cons_succ]
        refine anyC_take (i := 3) (v := ?_) rfl (by kernel_rfl) (by kernel_rfl) (by kernel_rfl) (fun _ _ _ h => h) (And.intro X_12.out (And.intro S_12.out (And.intro C_12.out Y_12.out))) (Or.inl ⟨by rfl, ?_⟩) ?_
        rotate_left
        · intro W hW
          go_simp
          try with_reducible rfl
        try simp only [List.getElem_toArray, List.getElem_cons_zero, List.getElem_cons_succ, Act.put, List.setIfInBounds_toArray, List.set_cons_zero, List.set_cons_succ]
        refine anyC_take (i := 4) (v := ?_) rfl (by kernel_rfl) (by kernel_rfl) (by kernel_rfl) (fun _ _ _ h => h) (And.intro X_12.out (And.intro S_12.out (And.intro C_12.out Y_12.out))) (Or.inl ⟨by rfl, ?_⟩) ?_
        rotate_left
        · intro W hW
          go_simp
          try with_reducible rfl
        try simp only [List.getElem_toArray, List.getElem_cons_zero, List.getElem_cons_succ, Act.put, List.setIfInBounds_toArray, List.set_cons_zero, List.set_cons_succ]
        refine anyC_take (i := 6) (v := ?_) rfl (by kernel_rfl) (by kernel_rfl) (by kernel_rfl) (fun _ _ _ h => h) (And.intro X_12.out (And.intro S_12.out (And.intro C_12.out Y_12.out))) (Or.inl ⟨by rfl, ?_⟩) ?_
        rotate_left
        · intro W hW
          go_simp
          try with_reducible rfl
        try simp only [List.getElem_toArray, List.getElem_cons_zero, List.getElem_cons_succ, Act.put, List.setIfInBounds_toArray, List.set_cons_zero, List.set_cons_succ]
        refine anyC_take (i := 7) (v := ?_) rfl (by kernel_rfl) (by kernel_rfl) (by kernel_rfl) (fun _ _ _ h => h) (And.intro X_12.out (And.intro S_12.out (And.intro C_12.out Y_12.out))) (Or.inl ⟨by rfl, ?_⟩) ?_
        rotate_left
        · intro W hW
          have y0 : W.cell? ⟨w2.heap.size, 0, none⟩ = some (.int .i64 st) := hW.2.2.2.cell 0
          go_simp
          try with_reducible rfl
        try simp only [List.getElem_toArray, List.getElem_cons_zero, List.getElem_cons_succ, Act.put, List.setIfInBounds_toArray, List.set_cons_zero, List.set_cons_succ]
        refine anyC_take (i := 8) (v := ?_) rfl (by kernel_rfl) (by kernel_rfl) (by kernel_rfl) (fun _ _ _ h => h) (And.intro X_12.out (And.intro S_12.out (And.intro C_12.out Y_12.out))) (Or.inl ⟨by rfl, ?_⟩) ?_
        rotate_left
        · intro W hW
          go_simp
          try with_reducible rfl
        try simp only [List.getElem_toArray, List.getElem_cons_zero, List.getElem_cons_succ, Act.put, List.setIfInBounds_toArray, List.set_cons_zero, List.set_cons_succ]
        refine anyC_take (i := 9) (v := ?_) rfl (by kernel_rfl) (by kernel_rfl) (by kernel_rfl) (fun _ _ _ h => h) (And.intro X_12.out (And.intro S_12.out (And.intro C_12.out Y_12.out))) (Or.inl ⟨by rfl, ?_⟩) ?_
        rotate_left
        · intro W hW
          go_simp
          try with_reducible rfl
        try simp only [List.getElem_toArray, List.getElem_cons_zero, List.getElem_cons_succ, Act.put, List.setIfInBounds_toArray, List.set_cons_zero, List.set_cons_succ]
        refine anyC_one (i := 5) (by kernel_rfl) (fun K hK => ⟨_, rfl, by kernel_rfl, ?_⟩)
        go_simp
        refine (contains_any G_12.out (1 + (k : Int)) (by have := HTl.out; omega)).mono ?_
        rintro e w9 ⟨rfl, rfl⟩
        rw [HL2.out]
        refine hK _ _ (And.intro X_12.out (And.intro S_12.out (And.intro C_12.out Y_12.out))) ?_
        clear hK K
        try simp only [List.getElem_toArray, List.getElem_cons_zero, List.getElem_cons_succ, Act.put, List.setIfInBounds_toArray, List.set_cons_zero, List.set_cons_succ]
        refine anyC_one (i := 10) (by kernel_rfl) (fun K hK => ⟨_, rfl, by kernel_rfl, ?_⟩)
        go_simp
        refine (HIk.out _ _ I_12.out).mono ?_
        rintro e w10 ⟨v10, rfl, hv10, hb10⟩
        have hbl10 := Lib.hid (hbl9.out.trans (hb10.mono hbl9.out.size))
        have hsh := hv10.shape
        rw [HZ.out] at hsh
        obtain ⟨A10, c10, rfl⟩ : ∃ A10 c10, v10 = .slice A10 z c10 := by
          rcases hsh with ⟨rfl, e0⟩ | ⟨g, off, cap10, rfl, _⟩
          · have h0 := HZ.out
            rw [e0] at h0
            exact ⟨none, 0, by rw [← h0]; rfl⟩
          · exact ⟨_, _, rfl⟩
        have B_13 := Lib.hid (B_12.out.trans (hb10.mono B_12.out.size))
        have X_13 := Lib.hid (X_12.out.below hb10 X_12.out.lt)
        have S_13 := Lib.hid (S_12.out.below hb10 S_12.out.lt)
        have C_13 := Lib.hid (C_12.out.below hb10 C_12.out.lt)
        have U_13 := Lib.hid ((U_12.out.below hb10 (Nat.le_refl _)).mono hb10.size)
        have R_13 := Lib.hid ((R_12.out.below hb10 (Nat.le_refl _)).mono hb10.size)
        have Y_13 := Lib.hid (Y_12.out.below hb10 Y_12.out.lt)
        have N_13 := Lib.hid ((N_12.out.below hb10 (Nat.le_refl _)).mono hb10.size)
        have I_13 := Lib.hid ((I_12.out.below hb10 (Nat.le_refl _)).mono hb10.size)
        have G_13 := Lib.hid ((G_12.out.below hb10 (Nat.le_refl _)).mono hb10.size)
        clear B_12 X_12 S_12 C_12 U_12 R_12 Y_12 N_12 I_12 G_12 hb10 hv10 hsh
        refine hK _ _ (And.intro X_13.out (And.intro S_13.out (And.intro C_13.out Y_13.out))) ?_
        clear hK K
        try simp only [List.getElem_toArray, List.getElem_cons_zero, List.getElem_cons_succ, Act.put, List.setIfInBounds_toArray, List.set_cons_zero, List.set_cons_succ]
        refine anyC_take (i := 11) (v := ?_) rfl (by kernel_rfl) (by kernel_rfl) (by kernel_rfl) (fun _ _ _ h => h) (And.intro X_13.out (And.intro S_13.out (And.intro C_13.out Y_13.out))) (Or.inl ⟨by rfl, ?_⟩) ?_
        rotate_left
        · intro W hW
          go_simp
          try with_reducible rfl
        try simp only [List.getElem_toArray, List.getElem_cons_zero, List.getElem_cons_succ, Act.put, List.setIfInBounds_toArray, List.set_cons_zero, List.set_cons_succ]
        refine anyC_take (i := 12) (v := ?_) rfl (by kernel_rfl) (by kernel_rfl) (by kernel_rfl) (fun _ _ _ h => h) (And.intro X_13.out (And.intro S_13.out (And.intro C_13.out Y_13.out))) (Or.inl ⟨by rfl, ?_⟩) ?_
        rotate_left
        · intro W hW
          go_simp
          try with_reducible rfl
        try simp only [List.getElem_toArray, List.getElem_cons_zero, List.getElem_cons_succ, Act.put, List.setIfInBounds_toArray, List.set_cons_zero, List.set_cons_succ]
        refine anyC_take (i := 13) (v := ?_) rfl (by kernel_rfl) (by kernel_rfl) (by kernel_rfl) (fun _ _ _ h => h) (And.intro X_13.out (And.intro S_13.out (And.intro C_13.out Y_13.out))) (Or.inl ⟨by rfl, ?_⟩) ?_
        rotate_left
        · intro W hW
          go_simp
          try with_reducible rfl
        try simp only [List.getElem_toArray, List.getElem_cons_zero, List.getElem_cons_succ, Act.put, List.setIfInBounds_toArray, List.set_cons_zero, List.set_cons_succ]
        refine anyC_take (i := 14) (v := ?_) rfl (by kernel_rfl) (by kernel_rfl) (by kernel_rfl) (fun _ _ _ h => h) (And.intro X_13.out (And.intro S_13.out (And.intro C_13.out Y_13.out))) (Or.inl ⟨by rfl, ?_⟩) ?_
        rotate_left
        · intro W hW
          go_simp
          try with_reducible rfl
        try simp only [List.getElem_toArray, List.getElem_cons_zero, List.getElem_cons_succ, Act.put, List.setIfInBounds_toArray, List.set_cons_zero, List.set_cons_succ]
        refine anyC_done (by kernel_rfl) ?_ _
        go_wp2_with fail
        go_roundw
        case rel => exact ⟨k + 1, by omega, by go_num, hbl10.out⟩
        case measure => simp [intOf]; omega
      · obtain rfl : z = 0 := by omega
        have HL2 := Lib.hid (HLaw.out.trans (decide_eq_false (by omega)))
        refine region_anyC (fun W => Blk W w.heap.size 22 #[.int .u8 a, .int .u8 b] ∧ Blk W (w.heap.size + 1) 25 #[.int .i64 sid, .bool true, .slice Au m cu] ∧ Blk W (w.heap.size + 1 + 1) 30 #[.string tg, .int .i64 8, .string mb, .slice A n cap, .int .i64 items, .int .i64 mode, .bool sil, .int .u8 fl, .slice D nd cd] ∧ Blk W w2.heap.size 34 #[.int .i64 st, .int .i64 ss]) (by kernel_rfl) ?_
        refine anyC_take (i := 0) (v := ?_) rfl (by kernel_rfl) (by kernel_rfl) (by kernel_rfl) (fun _ _ _ h => h) (And.intro X_12.out (And.intro S_12.out (And.intro C_12.out Y_12.out))) (Or.inl ⟨by rfl, ?_⟩) ?_
        rotate_left
        · intro W hW
          go_simp
          try with_reducible rfl
        try simp only [List.getElem_toArray, List.getElem_cons_zero, List.getElem_cons_succ, Act.put, List.setIfInBounds_toArray, List.set_cons_zero, List.set_cons_succ]
        refine anyC_take (i := 1) (v := ?_) rfl (by kernel_rfl) (by kernel_rfl) (by kernel_rfl) (fun _ _ _ h => h) (And.intro X_12.out (And.intro S_12.out (And.intro C_12.out Y_12.out))) (Or.inl ⟨by rfl, ?_⟩) ?_
        rotate_left
        · intro W hW
          go_simp
          try with_reducible rfl
        try simp only [List.getElem_toArray, List.getElem_cons_zero, List.getElem_cons_succ, Act.put, List.setIfInBounds_toArray, List.set_cons_zero, List.set_cons_succ]
        refine anyC_take (i := 2) (v := ?_) rfl (by kernel_rfl) (by kernel_rfl) (by kernel_rfl) (fun _ _ _ h => h) (And.intro X_12.out (And.intro S_12.out (And.intro C_12.out Y_12.out))) (Or.inl ⟨by rfl, ?_⟩) ?_
        rotate_left
        · intro W hW
          go_simp
          try with_reducible rfl
        try simp only [List.getElem_toArray, List.getElem_cons_zero, List.getElem_cons_succ, Act.put, List.setIfInBounds_toArray, List.set_cons_zero, List.set_cons_succ]
        refine anyC_take (i := 3) (v := ?_) rfl (by kernel_rfl) (by kernel_rfl) (by kernel_rfl) (fun _ _ _ h => h) (And.intro X_12.out (And.intro S_12.out (And.intro C_12.out Y_12.out))) (Or.inl ⟨by rfl, ?_⟩) ?_
        rotate_left
        · intro W hW
          go_simp
          try with_reducible rfl
        try simp only [List.getElem_toArray, List.getElem_cons_zero, List.getElem_cons_succ, Act.put, List.setIfInBounds_toArray, List.set_cons_zero, List.set_cons_succ]
        refine anyC_take (i := 4) (v := ?_) rfl (by kernel_rfl) (by kernel_rfl) (by kernel_rfl) (fun _ _ _ h => h) (And.intro X_12.out (And.intro S_12.out (And.intro C_12.out Y_12.out))) (Or.inl ⟨by rfl, ?_⟩) ?_
        rotate_left
        · intro W hW
          go_simp
          try with_reducible rfl
        try simp only [List.getElem_toArray, List.getElem_cons_zero, List.getElem_cons_succ, Act.put, List.setIfInBounds_toArray, List.set_cons_zero, List.set_cons_succ]
        refine anyC_take (i := 6) (v := ?_) rfl (by kernel_rfl) (by kernel_rfl) (by kernel_rfl) (fun _ _ _ h => h) (And.intro X_12.out (And.intro S_12.out (And.intro C_12.out Y_12.out))) (Or.inl ⟨by rfl, ?_⟩) ?_
        rotate_left
        · intro W hW
          go_simp
          try with_reducible rfl
        try simp only [List.getElem_toArray, List.getElem_cons_zero, List.getElem_cons_succ, Act.put, List.setIfInBounds_toArray, List.set_cons_zero, List.set_cons_succ]
        refine anyC_take (i := 7) (v := ?_) rfl (by kernel_rfl) (by kernel_rfl) (by kernel_rfl) (fun _ _ _ h => h) (And.intro X_12.out (And.intro S_12.out (And.intro C_12.out Y_12.out))) (Or.inl ⟨by rfl, ?_⟩) ?_
        rotate_left
        · intro W hW
          have y0 : W.cell? ⟨w2.heap.size, 0, none⟩ = some (.int .i64 st) := hW.2.2.2.cell 0
          go_simp
          try with_reducible rfl
        try simp only [List.getElem_toArray, List.getElem_cons_zero, List.getElem_cons_succ, Act.put, List.setIfInBounds_toArray, List.set_cons_zero, List.set_cons_succ]
        refine anyC_take (i := 8) (v := ?_) rfl (by kernel_rfl) (by kernel_rfl) (by kernel_rfl) (fun _ _ _ h => h) (And.intro X_12.out (And.intro S_12.out (And.intro C_12.out Y_12.out))) (Or.inl ⟨by rfl, ?_⟩) ?_
        rotate_left
        · intro W hW
          go_simp
          try with_reducible rfl
        try simp only [List.getElem_toArray, List.getElem_cons_zero, List.getElem_cons_succ, Act.put, List.setIfInBounds_toArray, List.set_cons_zero, List.set_cons_succ]
        refine anyC_take (i := 9) (v := ?_) rfl (by kernel_rfl) (by kernel_rfl) (by kernel_rfl) (fun _ _ _ h => h) (And.intro X_12.out (And.intro S_12.out (And.intro C_12.out Y_12.out))) (Or.inl ⟨by rfl, ?_⟩) ?_
        rotate_left
        · intro W hW
          go_simp
          try with_reducible rfl
        try simp only [List.getElem_toArray, List.getElem_cons_zero, List.getElem_cons_succ, Act.put, List.setIfInBounds_toArray, List.set_cons_zero, List.set_cons_succ]
        refine anyC_one (i := 5) (by kernel_rfl) (fun K hK => ⟨_, rfl, by kernel_rfl, ?_⟩)
        go_simp
        refine (contains_any G_12.out (1 + (k : Int)) (by have := HTl.out; omega)).mono ?_
        rintro e w9 ⟨rfl, rfl⟩
        rw [HL2.out]
        refine hK _ _ (And.intro X_12.out (And.intro S_12.out (And.intro C_12.out Y_12.out))) ?_
        clear hK K
        try simp only [List.getElem_toArray, List.getElem_cons_zero, List.getElem_cons_succ, Act.put, List.setIfInBounds_toArray, List.set_cons_zero, List.set_cons_succ]
        refine anyC_one (i := 10) (by kernel_rfl) (fun K hK => ⟨_, rfl, by kernel_rfl, ?_⟩)
        go_simp
        refine (HIk.out _ _ I_12.out).mono ?_
        rintro e w10 ⟨v10, rfl, hv10, hb10⟩
        have hbl10 := Lib.hid (hbl9.out.trans (hb10.mono hbl9.out.size))
        have hsh := hv10.shape
        rw [HZ.out] at hsh
        obtain ⟨A10, c10, rfl⟩ : ∃ A10 c10, v10 = .slice A10 0 c10 := by
          rcases hsh with ⟨rfl, e0⟩ | ⟨g, off, cap10, rfl, _⟩
          · have h0 := HZ.out
            rw [e0] at h0
            exact ⟨none, 0, rfl⟩
          · exact ⟨_, _, rfl⟩
        have B_13 := Lib.hid (B_12.out.trans (hb10.mono B_12.out.size))
        have X_13 := Lib.hid (X_12.out.below hb10 X_12.out.lt)
        have S_13 := Lib.hid (S_12.out.below hb10 S_12.out.lt)
        have C_13 := Lib.hid (C_12.out.below hb10 C_12.out.lt)
        have U_13 := Lib.hid ((U_12.out.below hb10 (Nat.le_refl _)).mono hb10.size)
        have R_13 := Lib.hid ((R_12.out.below hb10 (Nat.le_refl _)).mono hb10.size)
        have Y_13 := Lib.hid (Y_12.out.below hb10 Y_12.out.lt)
        have N_13 := Lib.hid ((N_12.out.below hb10 (Nat.le_refl _)).mono hb10.size)
        have I_13 := Lib.hid ((I_12.out.below hb10 (Nat.le_refl _)).mono hb10.size)
        have G_13 := Lib.hid ((G_12.out.below hb10 (Nat.le_refl _)).mono hb10.size)
        clear B_12 X_12 S_12 C_12 U_12 R_12 Y_12 N_12 I_12 G_12 hb10 hv10 hsh
        refine hK _ _ (And.intro X_13.out (And.intro S_13.out (And.intro C_13.out Y_13.out))) ?_
        clear hK K
        try simp only [List.getElem_toArray, List.getElem_cons_zero, List.getElem_cons_succ, Act.put, List.setIfInBounds_toArray, List.set_cons_zero, List.set_cons_succ]
        refine anyC_take (i := 11) (v := ?_) rfl (by kernel_rfl) (by kernel_rfl) (by kernel_rfl) (fun _ _ _ h => h) (And.intro X_13.out (And.intro S_13.out (And.intro C_13.out Y_13.out))) (Or.inl ⟨by rfl, ?_⟩) ?_
        rotate_left
        · intro W hW
          go_simp
          try with_reducible rfl
        try simp only [List.getElem_toArray, List.getElem_cons_zero, List.getElem_cons_succ, Act.put, List.setIfInBounds_toArray, List.set_cons_zero, List.set_cons_succ]
        refine anyC_take (i := 12) (v := ?_) rfl (by kernel_rfl) (by kernel_rfl) (by kernel_rfl) (fun _ _ _ h => h) (And.intro X_13.out (And.intro S_13.out (And.intro C_13.out Y_13.out))) (Or.inl ⟨by rfl, ?_⟩) ?_
        rotate_left
        · intro W hW
          go_simp
          try with_reducible rfl
        try simp only [List.getElem_toArray, List.getElem_cons_zero, List.getElem_cons_succ, Act.put, List.setIfInBounds_toArray, List.set_cons_zero, List.set_cons_succ]
        refine anyC_take (i := 13) (v := ?_) rfl (by kernel_rfl) (by kernel_rfl) (by kernel_rfl) (fun _ _ _ h => h) (And.intro X_13.out (And.intro S_13.out (And.intro C_13.out Y_13.out))) (Or.inl ⟨by rfl, ?_⟩) ?_
        rotate_left
        · intro W hW
          go_simp
          try with_reducible rfl
        try simp only [List.getElem_toArray, List.getElem_cons_zero, List.getElem_cons_succ, Act.put, List.setIfInBounds_toArray, List.set_cons_zero, List.set_cons_succ]
        refine anyC_take (i := 14) (v := ?_) rfl (by kernel_rfl) (by kernel_rfl) (by kernel_rfl) (fun _ _ _ h => h) (And.intro X_13.out (And.intro S_13.out (And.intro C_13.out Y_13.out))) (Or.inl ⟨by rfl, ?_⟩) ?_
        rotate_left
        · intro W hW
          go_simp
          try with_reducible rfl
        try simp only [List.getElem_toArray, List.getElem_cons_zero, List.getElem_cons_succ, Act.put, List.setIfInBounds_toArray, List.set_cons_zero, List.set_cons_succ]
        refine anyC_done (by kernel_rfl) ?_ _
        go_wp2_with fail
        go_roundw
        case rel => exact ⟨k + 1, by omega, by go_num, hbl10.out⟩
        case measure => simp [intOf]; omega
    · obtain rfl : k = st := by omega
      go_wp2_with fail
      refine (HA.out _).mono ?_
      rintro e wz ⟨rfl, hbz⟩
      have B_11 := Lib.hid (B_10.out.trans (hbz.mono B_10.out.size))
      have X_11 := Lib.hid (X_10.out.below hbz X_10.out.lt)
      have S_11 := Lib.hid (S_10.out.below hbz S_10.out.lt)
      have C_11 := Lib.hid (C_10.out.below hbz C_10.out.lt)
      have U_11 := Lib.hid ((U_10.out.below hbz (Nat.le_refl _)).mono hbz.size)
      have R_11 := Lib.hid ((R_10.out.below hbz (Nat.le_refl _)).mono hbz.size)
      have Y_11 := Lib.hid (Y_10.out.below hbz Y_10.out.lt)
      have N_11 := Lib.hid ((N_10.out.below hbz (Nat.le_refl _)).mono hbz.size)
      have I_11 := Lib.hid ((I_10.out.below hbz (Nat.le_refl _)).mono hbz.size)
      have G_11 := Lib.hid ((G_10.out.below hbz (Nat.le_refl _)).mono hbz.size)
      clear B_10 X_10 S_10 C_10 U_10 R_10 Y_10 N_10 I_10 G_10 hbz
      go_wp2_with fail
      refine (contains_any G_11.out 0 (by have := HTl.out; omega)).mono ?_
      rintro e w9 ⟨rfl, rfl⟩
      rw [HS2.out.2]
      go_wp2_with fail
      go_ret
      exact ⟨rfl, B_11.out⟩

theorem planStripes_walk (a b : Nat) (sid : Int) (sel : Bool) (us : List Int) (tg mb : ByteArray) (kind items mode : Int) (sil : Bool) (fl : Int) (A D : Option Addr) (n cap nd cd : Nat) (l : List RB) (vu : Value) (w : World) (ha : a < 256) (hb : b < 256) (hU : U32 w w.heap.size vu us) (hR : RgL w w.heap.size (.slice A n cap) (l.map RB.rng)) (h0 : ∀ x ∈ us, 0 ≤ x ∧ x < 4294967296) :
    Calls Tryz.prog 5 #[.agg #[.int .u8 a, .int .u8 b], .agg #[.int .i64 sid, .bool sel, vu], .agg #[.string tg, .int .i64 kind, .string mb, .slice A n cap, .int .i64 items, .int .i64 mode, .bool sil, .int .u8 fl, .slice D nd cd]] w fun e w' => e = .returned (.bool true) ∧ Below w.heap.size w w' := by
  cases hf : fewC tg mb n nd with
  | false => exact ss_few a b sid sel us tg mb kind items mode sil fl A D n cap nd cd l vu w ha hb hU hR h0 hf
  | true =>
    by_cases hlg : 60 < us.length
    · exact ss_long a b sid sel us tg mb kind items mode sil fl A D n cap nd cd l vu w ha hb hU hR h0 hlg
    · by_cases h7 : kind = 7
      · subst h7
        cases sel
        · exact ss_unsel7 a b sid us tg mb items mode sil fl A D n cap nd cd l vu w ha hb hU hR h0 hlg
        · exact ss_main7 a b sid us tg mb items mode sil fl A D n cap nd cd l vu w ha hb hU hR h0 hf hlg
      · by_cases h8 : kind = 8
        · subst h8
          cases sel
          · exact ss_unsel8 a b sid us tg mb items mode sil fl A D n cap nd cd l vu w ha hb hU hR h0 hlg
          · exact ss_main8 a b sid us tg mb items mode sil fl A D n cap nd cd l vu w ha hb hU hR h0 hf hlg
        · exact ss_kind a b sid sel us tg mb kind items mode sil fl A D n cap nd cd l vu w ha hb hU hR h0 hlg h7 h8
end Go.Proofs.YtamholmjppgfiaaGreat
