/- PlanSame: the law's own walk. -/
import Derived.Test.YtamholmjppgfiaaGreatPlanD
set_option linter.unusedVariables false
set_option linter.unusedSimpArgs false
namespace Go.Proofs.YtamholmjppgfiaaGreat
open Go Go.RowKit Go.Shelf Go.Lib Go.Sort

theorem lSt_pos (a : Nat) : 0 < lSt a ∧ lSt a ≤ 16 := by unfold lSt; omega
theorem lSs_le (b : Nat) : lSs b ≤ 16 := by unfold lSs; omega
theorem msgL_len {st ss : Nat} (hss : ss ≤ 100) {id : Int} {p : Option (List Int)} {set : List Rng} (hp : ∀ vl, p = some vl → vl.length ≤ 60) {t : List Int} (ht : t.length ≤ 200) : (msgL st p set t).length ≤ 300 := by
  unfold msgL
  cases p with
  | none => simp
  | some vl =>
    have h1 := hp vl rfl
    have h2 := stripe_len (st := st) (uidsOf vl set)
    have h3 := uids_le (vl := vl) (l := set)
    dsimp only
    split
    · rw [List.length_append, List.length_map]; omega
    · simp
theorem forL_len {st ss : Nat} (hst : st ≤ 100) (hss : ss ≤ 100) {id : Int} {p : Option (List Int)} (hp : ∀ vl, p = some vl → vl.length ≤ 60) {kind : Int} {ib : Bool} {set : List Rng} {mk : Bool} : (forL st ss id p kind ib set mk).length ≤ 1000 := by
  have h1 : (ownL (st : Int) id).length = 1 := rfl
  have h2 : (queL (st : Int) (ss : Int)).length ≤ 200 := by unfold queL; rw [runL_len]; omega
  have h3 : (evL (st : Int) (ss : Int)).length ≤ 300 := by unfold evL; rw [runL_len]; omega
  have h4 := msgL_len (st := st) hss (id := id) (set := set) hp (t := queL (st : Int) (ss : Int)) h2
  have h5 := msgL_len (st := st) hss (id := id) (set := set) hp (t := ownL (st : Int) id) (by omega)
  unfold forL planL
  split
  · split
    · split
      · omega
      · simp
    split
    · split
      · omega
      · simp
    split
    · rw [List.length_append]; simp; omega
    split
    · split
      · omega
      · split
        · omega
        · simp
    split
    · cases mk
      · rw [if_neg Bool.false_ne_true]; omega
      · rw [if_pos rfl]; omega
    split
    · omega
    · simp
  · simp
theorem vw_same (p : Option Addr) (sel : Bool) (h : p.isSome = sel) (us : List Int) : (if p.isSome then some (if sel then us else []) else none) = if sel then some us else none := by
  rw [h]; cases sel <;> rfl
/-- A command with a view and a layout, as For takes it. -/
theorem planfor_any (st ss : Nat) (h1 : st ≤ 100) (h2 : ss ≤ 100) (h0 : 0 < st) (id : Int) (p : Option Addr) (sel : Bool) (hp : p.isSome = sel) (us : List Int) (l : List RB) (tg mb : ByteArray) (kind items mode : Int) (sil : Bool) (fl : Int) (A D : Option Addr) (n cap nd cd : Nat) (hm : mb.size ≤ 300) (w : World)
    (hV : VwR w w.heap.size p (if sel then us else [])) (hR : RgL w w.heap.size (.slice A n cap) (l.map RB.rng)) (hu : us.length ≤ 60) (hl : l.length ≤ 60) (hb : ∀ x ∈ us, 0 ≤ x ∧ x < 4294967296) :
    Calls Tryz.prog 10 #[.agg #[.int .i64 st, .int .i64 ss], .int .i64 id, .pointer p, .agg #[.string tg, .int .i64 kind, .string mb, .slice A n cap, .int .i64 items, .int .i64 mode, .bool sil, .int .u8 fl, .slice D nd cd]] w fun e w' =>
      ∃ v, e = .returned v ∧ LkB w' w.heap.size v (forL st ss id (if sel then some us else none) kind (inboxB mb) (l.map RB.rng) (marksB items)) ∧ Below w.heap.size w w' := by
  have h := for_any ⟨st, ss, id, p, tg, kind, mb, A, n, cap, items, mode, sil, fl, D, nd, cd⟩ st ss rfl rfl h1 h2 h0 (if sel then us else []) l (by unfold maxLen; show mb.size ≤ _; omega) w ⟨hV, hR, by split; exact hu; simp, hl, by split; exact hb; simp⟩
  have e : Rq.vw ⟨st, ss, id, p, tg, kind, mb, A, n, cap, items, mode, sil, fl, D, nd, cd⟩ (if sel then us else []) = if sel then some us else none := vw_same p sel hp us
  rw [e] at h
  exact h

set_option maxRecDepth 100000 in
set_option maxHeartbeats 6400000 in
theorem planSame_walk (a b : Nat) (sid : Int) (sel : Bool) (us : List Int) (tg mb : ByteArray) (kind items mode : Int) (sil : Bool) (fl : Int) (A D : Option Addr) (n cap nd cd : Nat) (l : List RB) (vu : Value) (w : World) (ha : a < 256) (hb : b < 256) (hU : U32 w w.heap.size vu us) (hR : RgL w w.heap.size (.slice A n cap) (l.map RB.rng)) (h0 : ∀ x ∈ us, 0 ≤ x ∧ x < 4294967296) :
    Calls Tryz.prog 3 #[.agg #[.int .u8 a, .int .u8 b], .agg #[.int .i64 sid, .bool sel, vu], .agg #[.string tg, .int .i64 kind, .string mb, .slice A n cap, .int .i64 items, .int .i64 mode, .bool sil, .int .u8 fl, .slice D nd cd]] w fun e w' => e = .returned (.bool true) ∧ Below w.heap.size w w' := by
  obtain ⟨Au, cu, rfl, hcu1, hcu2⟩ := id hU
  have hRn : n = l.length := by
    obtain ⟨A', c', he, -⟩ := hR
    injection he with h1 h2 h3
    rw [h2, List.length_map]
  have hb0 : Below w.heap.size w (w.alloc (.cells #[.int .u8 a, .int .u8 b] 22)) := (Below.refl _ w).alloc (Nat.le_refl _) _
  have hb1 := hb0.alloc hb0.size (.cells #[.int .i64 sid, .bool sel, .slice Au us.length cu] 25)
  have hb2 := hb1.alloc hb1.size (.cells #[.string tg, .int .i64 kind, .string mb, .slice A n cap, .int .i64 items, .int .i64 mode, .bool sil, .int .u8 fl, .slice D nd cd] 30)
  have kx := ((Blk.made w 22 #[.int .u8 a, .int .u8 b]).past (.cells #[.int .i64 sid, .bool sel, .slice Au us.length cu] 25)).past (.cells #[.string tg, .int .i64 kind, .string mb, .slice A n cap, .int .i64 items, .int .i64 mode, .bool sil, .int .u8 fl, .slice D nd cd] 30)
  have ks := (Blk.made (w.alloc (.cells #[.int .u8 a, .int .u8 b] 22)) 25 #[.int .i64 sid, .bool sel, .slice Au us.length cu]).past (.cells #[.string tg, .int .i64 kind, .string mb, .slice A n cap, .int .i64 items, .int .i64 mode, .bool sil, .int .u8 fl, .slice D nd cd] 30)
  have kc := Blk.made ((w.alloc (.cells #[.int .u8 a, .int .u8 b] 22)).alloc (.cells #[.int .i64 sid, .bool sel, .slice Au us.length cu] 25)) 30 #[.string tg, .int .i64 kind, .string mb, .slice A n cap, .int .i64 items, .int .i64 mode, .bool sil, .int .u8 fl, .slice D nd cd]
  rw [World.size_alloc] at ks
  rw [World.size_alloc, World.size_alloc] at kc
  have hlay := layout_any a b ha hb
  obtain ⟨st, hst⟩ : ∃ st, lSt a = st := ⟨_, rfl⟩
  obtain ⟨ss, hss⟩ : ∃ ss, lSs b = ss := ⟨_, rfl⟩
  have hs1 : 0 < st ∧ st ≤ 16 := hst ▸ lSt_pos a
  have hs2 : ss ≤ 16 := hss ▸ lSs_le b
  rw [hst, hss] at hlay
  have HY := Lib.hid hlay
  have HA := Lib.hid (fun W => alive_any W)
  have HF := Lib.hid (fun W => fewc_any tg mb kind items mode sil fl A D n cap nd cd W)
  obtain ⟨f, hf⟩ : ∃ f, fewC tg mb n nd = f := ⟨_, rfl⟩
  have hfl : f = true → mb.size ≤ 300 ∧ n ≤ 60 := fun h => by
    rw [h] at hf
    unfold fewC at hf
    simp only [Bool.and_eq_true, decide_eq_true_eq] at hf
    exact ⟨hf.2.1, hf.2.2.1⟩
  rw [hf] at HF
  clear hf hst hss hlay
  have B_0 := Lib.hid hb2
  have X_0 := Lib.hid kx
  have S_0 := Lib.hid ks
  have C_0 := Lib.hid kc
  have U_0 := Lib.hid ((hU.below hb2 (Nat.le_refl _)).mono hb2.size)
  have R_0 := Lib.hid ((hR.below hb2 (Nat.le_refl _)).mono hb2.size)
  have HP := Lib.hid (And.intro h0 (And.intro hRn hfl))
  clear hb0 hb1 hb2 kx ks kc hU hR h0 hRn hfl hcu1 hcu2
  obtain ⟨m, hm⟩ : ∃ m, us.length = m := ⟨_, rfl⟩
  have HM := Lib.hid hm
  rw [hm] at B_0 X_0 S_0 C_0 U_0 R_0 ⊢
  clear hm
  cases f with
  | false =>
    go_enter Tryz.func3, Tryz.ntmps3
    go_wp2_with fail
    refine (HF.out _).mono ?_
    rintro e w1 ⟨rfl, hb1⟩
    have B_1 := Lib.hid (B_0.out.trans (hb1.mono B_0.out.size))
    have X_1 := Lib.hid (X_0.out.below hb1 X_0.out.lt)
    have S_1 := Lib.hid (S_0.out.below hb1 S_0.out.lt)
    have C_1 := Lib.hid (C_0.out.below hb1 C_0.out.lt)
    have U_1 := Lib.hid ((U_0.out.below hb1 (Nat.le_refl _)).mono hb1.size)
    have R_1 := Lib.hid ((R_0.out.below hb1 (Nat.le_refl _)).mono hb1.size)
    clear B_0 X_0 S_0 C_0 U_0 R_0 hb1
    go_wp2_with fail
    refine (HA.out _).mono ?_
    rintro e wz ⟨rfl, hbz⟩
    have B_2 := Lib.hid (B_1.out.trans (hbz.mono B_1.out.size))
    have X_2 := Lib.hid (X_1.out.below hbz X_1.out.lt)
    have S_2 := Lib.hid (S_1.out.below hbz S_1.out.lt)
    have C_2 := Lib.hid (C_1.out.below hbz C_1.out.lt)
    have U_2 := Lib.hid ((U_1.out.below hbz (Nat.le_refl _)).mono hbz.size)
    have R_2 := Lib.hid ((R_1.out.below hbz (Nat.le_refl _)).mono hbz.size)
    clear B_1 X_1 S_1 C_1 U_1 R_1 hbz
    go_wp2_with fail
    go_ret
    exact ⟨rfl, B_2.out⟩
  | true =>
  by_cases hm60 : 60 < m
  · have hm60I : (60 : Int) < m := by omega
    have hm60d : decide ((60 : Int) < m) = true := decide_eq_true hm60I
    go_enter Tryz.func3, Tryz.ntmps3
    go_wp2_with fail
    refine (HF.out _).mono ?_
    rintro e w1 ⟨rfl, hb1⟩
    have B_1 := Lib.hid (B_0.out.trans (hb1.mono B_0.out.size))
    have X_1 := Lib.hid (X_0.out.below hb1 X_0.out.lt)
    have S_1 := Lib.hid (S_0.out.below hb1 S_0.out.lt)
    have C_1 := Lib.hid (C_0.out.below hb1 C_0.out.lt)
    have U_1 := Lib.hid ((U_0.out.below hb1 (Nat.le_refl _)).mono hb1.size)
    have R_1 := Lib.hid ((R_0.out.below hb1 (Nat.le_refl _)).mono hb1.size)
    clear B_0 X_0 S_0 C_0 U_0 R_0 hb1
    have s2 : w1.cell? ⟨w.heap.size + 1, 2, none⟩ = some (.slice Au m cu) := S_1.out.cell 2
    go_wp2_with fail
    refine (HA.out _).mono ?_
    rintro e wz ⟨rfl, hbz⟩
    have B_2 := Lib.hid (B_1.out.trans (hbz.mono B_1.out.size))
    have X_2 := Lib.hid (X_1.out.below hbz X_1.out.lt)
    have S_2 := Lib.hid (S_1.out.below hbz S_1.out.lt)
    have C_2 := Lib.hid (C_1.out.below hbz C_1.out.lt)
    have U_2 := Lib.hid ((U_1.out.below hbz (Nat.le_refl _)).mono hbz.size)
    have R_2 := Lib.hid ((R_1.out.below hbz (Nat.le_refl _)).mono hbz.size)
    clear B_1 X_1 S_1 C_1 U_1 R_1 hbz
    go_wp2_with fail
    go_ret
    exact ⟨rfl, B_2.out⟩
  · have hm60I : ¬ ((60 : Int) < m) := by omega
    have hm60d : decide ((60 : Int) < m) = false := decide_eq_false hm60I
    have HFr := Lib.hid (fun (p : Option Addr) (hp : p.isSome = sel) W (hV : VwR W W.heap.size p (if sel then srtU us else [])) (hR : RgL W W.heap.size (.slice A n cap) (l.map RB.rng)) => planfor_any st ss (by omega) (by omega) hs1.1 sid p sel hp (srtU us) l ⟨#[120]⟩ mb kind items 0 false 0 A none n cap 0 0 (HP.out.2.2 rfl).1 W hV hR (by have := srtU_len us; have := HM.out; omega) (by have := HP.out.2.1; have := (HP.out.2.2 rfl).2; omega) (fun x hx => HP.out.1 x (srtU_mem.1 hx).1))
    have HRf := Lib.hid (fun (vv : Value) W (hV : U32 W W.heap.size vv (srtU us)) (hR : RgL W W.heap.size (.slice A n cap) (l.map RB.rng)) => rfor_any st ss (by omega) (by omega) hs1.1 sid sel (srtU us) vv l tg mb kind items mode sil fl A D n cap nd cd (by have := (HP.out.2.2 rfl).1; omega) W hV hR (by have := srtU_len us; have := HM.out; omega) (by have := HP.out.2.1; have := (HP.out.2.2 rfl).2; omega) (fun x hx => HP.out.1 x (srtU_mem.1 hx).1))
    have hTl : (forL st ss sid (if sel then some (srtU us) else none) kind (inboxB mb) (l.map RB.rng) (marksB items)).length ≤ 1000 := forL_len (by omega) (by omega) (fun vl h => by
      cases sel with
      | false => cases h
      | true => injection h with h; rw [← h]; have := srtU_len us; have := HM.out; omega)
    obtain ⟨T, hT⟩ : ∃ T, forL st ss sid (if sel then some (srtU us) else none) kind (inboxB mb) (l.map RB.rng) (marksB items) = T := ⟨_, rfl⟩
    rw [hT] at HFr HRf hTl
    have HLk := Lib.hid (fun W (hU : U32 W W.heap.size (.slice Au m cu) us) => look_any us sid sel (.slice Au m cu) W hU (by have := HM.out; omega) (fun x hx => (HP.out.1 x hx).1))
    have HNw := Lib.hid (fun W (hU : U32 W W.heap.size (.slice Au m cu) us) => rnew_any us (.slice Au m cu) W hU (by have := HM.out; omega))
    have HTl := Lib.hid hTl
    clear hT hTl hs1 hs2 hm60
    go_enter Tryz.func3, Tryz.ntmps3
    go_wp2_with fail
    refine (HF.out _).mono ?_
    rintro e w1 ⟨rfl, hb1⟩
    have B_1 := Lib.hid (B_0.out.trans (hb1.mono B_0.out.size))
    have X_1 := Lib.hid (X_0.out.below hb1 X_0.out.lt)
    have S_1 := Lib.hid (S_0.out.below hb1 S_0.out.lt)
    have C_1 := Lib.hid (C_0.out.below hb1 C_0.out.lt)
    have U_1 := Lib.hid ((U_0.out.below hb1 (Nat.le_refl _)).mono hb1.size)
    have R_1 := Lib.hid ((R_0.out.below hb1 (Nat.le_refl _)).mono hb1.size)
    clear B_0 X_0 S_0 C_0 U_0 R_0 hb1
    have s2 : w1.cell? ⟨w.heap.size + 1, 2, none⟩ = some (.slice Au m cu) := S_1.out.cell 2
    have x0 : w1.cell? ⟨w.heap.size, 0, none⟩ = some (.int .u8 a) := X_1.out.cell 0
    have x1 : w1.cell? ⟨w.heap.size, 1, none⟩ = some (.int .u8 b) := X_1.out.cell 1
    go_wp2_with fail
    refine (HY.out _).mono ?_
    rintro e w2 ⟨rfl, hb2⟩
    have B_2 := Lib.hid (B_1.out.trans (hb2.mono B_1.out.size))
    have X_2 := Lib.hid (X_1.out.below hb2 X_1.out.lt)
    have S_2 := Lib.hid (S_1.out.below hb2 S_1.out.lt)
    have C_2 := Lib.hid (C_1.out.below hb2 C_1.out.lt)
    have U_2 := Lib.hid ((U_1.out.below hb2 (Nat.le_refl _)).mono hb2.size)
    have R_2 := Lib.hid ((R_1.out.below hb2 (Nat.le_refl _)).mono hb2.size)
    clear B_1 X_1 S_1 C_1 U_1 R_1 hb2 s2 x0 x1
    have hbl : Below w2.heap.size w2 (w2.alloc (.cells #[.int .i64 st, .int .i64 ss] 34)) := (Below.refl _ _).alloc (Nat.le_refl _) _
    have B_3 := Lib.hid (B_2.out.trans (hbl.mono B_2.out.size))
    have X_3 := Lib.hid (X_2.out.below hbl X_2.out.lt)
    have S_3 := Lib.hid (S_2.out.below hbl S_2.out.lt)
    have C_3 := Lib.hid (C_2.out.below hbl C_2.out.lt)
    have U_3 := Lib.hid ((U_2.out.below hbl (Nat.le_refl _)).mono hbl.size)
    have R_3 := Lib.hid ((R_2.out.below hbl (Nat.le_refl _)).mono hbl.size)
    have Y_3 := Lib.hid (Blk.made w2 34 #[.int .i64 st, .int .i64 ss])
    clear B_2 X_2 S_2 C_2 U_2 R_2 hbl
    have c0 : (w2.alloc (.cells #[.int .i64 st, .int .i64 ss] 34)).cell? ⟨w.heap.size + 2, 0, none⟩ = some (.string tg) := C_3.out.cell 0
    have c1 : (w2.alloc (.cells #[.int .i64 st, .int .i64 ss] 34)).cell? ⟨w.heap.size + 2, 1, none⟩ = some (.int .i64 kind) := C_3.out.cell 1
    have c2 : (w2.alloc (.cells #[.int .i64 st, .int .i64 ss] 34)).cell? ⟨w.heap.size + 2, 2, none⟩ = some (.string mb) := C_3.out.cell 2
    have c3 : (w2.alloc (.cells #[.int .i64 st, .int .i64 ss] 34)).cell? ⟨w.heap.size + 2, 3, none⟩ = some (.slice A n cap) := C_3.out.cell 3
    have c4 : (w2.alloc (.cells #[.int .i64 st, .int .i64 ss] 34)).cell? ⟨w.heap.size + 2, 4, none⟩ = some (.int .i64 items) := C_3.out.cell 4
    have c5 : (w2.alloc (.cells #[.int .i64 st, .int .i64 ss] 34)).cell? ⟨w.heap.size + 2, 5, none⟩ = some (.int .i64 mode) := C_3.out.cell 5
    have c6 : (w2.alloc (.cells #[.int .i64 st, .int .i64 ss] 34)).cell? ⟨w.heap.size + 2, 6, none⟩ = some (.bool sil) := C_3.out.cell 6
    have c7 : (w2.alloc (.cells #[.int .i64 st, .int .i64 ss] 34)).cell? ⟨w.heap.size + 2, 7, none⟩ = some (.int .u8 fl) := C_3.out.cell 7
    have c8 : (w2.alloc (.cells #[.int .i64 st, .int .i64 ss] 34)).cell? ⟨w.heap.size + 2, 8, none⟩ = some (.slice D nd cd) := C_3.out.cell 8
    go_upto_region 6 with fail
    have hbd : Below (w2.alloc (.cells #[.int .i64 st, .int .i64 ss] 34)).heap.size (w2.alloc (.cells #[.int .i64 st, .int .i64 ss] 34)) ((w2.alloc (.cells #[.int .i64 st, .int .i64 ss] 34)).alloc (.cells #[.string ⟨#[120]⟩, .int .i64 kind, .string mb, .slice A n cap, .int .i64 items, .int .i64 0, .bool false, .int .u8 0, .slice none 0 0] 30)) := (Below.refl _ _).alloc (Nat.le_refl _) _
    have kd := Blk.made (w2.alloc (.cells #[.int .i64 st, .int .i64 ss] 34)) 30 #[.string ⟨#[120]⟩, .int .i64 kind, .string mb, .slice A n cap, .int .i64 items, .int .i64 0, .bool false, .int .u8 0, .slice none 0 0]
    rw [World.size_alloc] at kd
    have B_4 := Lib.hid (B_3.out.trans (hbd.mono B_3.out.size))
    have X_4 := Lib.hid (X_3.out.below hbd X_3.out.lt)
    have S_4 := Lib.hid (S_3.out.below hbd S_3.out.lt)
    have C_4 := Lib.hid (C_3.out.below hbd C_3.out.lt)
    have U_4 := Lib.hid ((U_3.out.below hbd (Nat.le_refl _)).mono hbd.size)
    have R_4 := Lib.hid ((R_3.out.below hbd (Nat.le_refl _)).mono hbd.size)
    have Y_4 := Lib.hid (Y_3.out.below hbd Y_3.out.lt)
    have D_4 := Lib.hid (kd)
    clear B_3 X_3 S_3 C_3 U_3 R_3 Y_3 hbd kd c0 c1 c2 c3 c4 c5 c6 c7 c8
    have hbw : Below ((w2.alloc (.cells #[.int .i64 st, .int .i64 ss] 34)).alloc (.cells #[.string ⟨#[120]⟩, .int .i64 kind, .string mb, .slice A n cap, .int .i64 items, .int .i64 0, .bool false, .int .u8 0, .slice none 0 0] 30)).heap.size ((w2.alloc (.cells #[.int .i64 st, .int .i64 ss] 34)).alloc (.cells #[.string ⟨#[120]⟩, .int .i64 kind, .string mb, .slice A n cap, .int .i64 items, .int .i64 0, .bool false, .int .u8 0, .slice none 0 0] 30)) ((w2.alloc (.cells #[.int .i64 st, .int .i64 ss] 34)).alloc (.cells #[.string ⟨#[120]⟩, .int .i64 kind, .string mb, .slice A n cap, .int .i64 items, .int .i64 0, .bool false, .int .u8 0, .slice none 0 0] 30)).drew := Below.drew (Below.refl _ _)
    have B_5 := Lib.hid (B_4.out.trans (hbw.mono B_4.out.size))
    have X_5 := Lib.hid (X_4.out.below hbw X_4.out.lt)
    have S_5 := Lib.hid (S_4.out.below hbw S_4.out.lt)
    have C_5 := Lib.hid (C_4.out.below hbw C_4.out.lt)
    have U_5 := Lib.hid ((U_4.out.below hbw (Nat.le_refl _)).mono hbw.size)
    have R_5 := Lib.hid ((R_4.out.below hbw (Nat.le_refl _)).mono hbw.size)
    have Y_5 := Lib.hid (Y_4.out.below hbw Y_4.out.lt)
    have D_5 := Lib.hid (D_4.out.below hbw D_4.out.lt)
    clear B_4 X_4 S_4 C_4 U_4 R_4 Y_4 D_4 hbw
    refine region_anyC (fun W => Blk W w.heap.size 22 #[.int .u8 a, .int .u8 b] ∧ Blk W (w.heap.size + 1) 25 #[.int .i64 sid, .bool sel, .slice Au m cu] ∧ Blk W (w.heap.size + 1 + 1) 30 #[.string tg, .int .i64 kind, .string mb, .slice A n cap, .int .i64 items, .int .i64 mode, .bool sil, .int .u8 fl, .slice D nd cd] ∧ Blk W w2.heap.size 34 #[.int .i64 st, .int .i64 ss] ∧ Blk W (w2.heap.size + 1) 30 #[.string ⟨#[120]⟩, .int .i64 kind, .string mb, .slice A n cap, .int .i64 items, .int .i64 0, .bool false, .int .u8 0, .slice none 0 0]) (by kernel_rfl) ?_
    refine anyC_one (i := 0) (by kernel_rfl) (fun K hK => ⟨_, rfl, by kernel_rfl, ?_⟩)
    go_simp
    refine (HA.out _).mono ?_
    rintro e w5 ⟨rfl, hb5⟩
    have B_6 := Lib.hid (B_5.out.trans (hb5.mono B_5.out.size))
    have X_6 := Lib.hid (X_5.out.below hb5 X_5.out.lt)
    have S_6 := Lib.hid (S_5.out.below hb5 S_5.out.lt)
    have C_6 := Lib.hid (C_5.out.below hb5 C_5.out.lt)
    have U_6 := Lib.hid ((U_5.out.below hb5 (Nat.le_refl _)).mono hb5.size)
    have R_6 := Lib.hid ((R_5.out.below hb5 (Nat.le_refl _)).mono hb5.size)
    have Y_6 := Lib.hid (Y_5.out.below hb5 Y_5.out.lt)
    have D_6 := Lib.hid (D_5.out.below hb5 D_5.out.lt)
    clear B_5 X_5 S_5 C_5 U_5 R_5 Y_5 D_5 hb5
    refine hK _ _ (And.intro X_6.out (And.intro S_6.out (And.intro C_6.out (And.intro Y_6.out D_6.out)))) ?_
    clear hK K
    try simp only [List.getElem_toArray, List.getElem_cons_zero, List.getElem_cons_succ, Act.put, List.setIfInBounds_toArray, List.set_cons_zero, List.set_cons_succ]
    refine anyC_take (i := 1) (v := ?_) rfl (by kernel_rfl) (by kernel_rfl) (by kernel_rfl) (fun _ _ _ h => h) (And.intro X_6.out (And.intro S_6.out (And.intro C_6.out (And.intro Y_6.out D_6.out)))) (Or.inl ⟨by rfl, ?_⟩) ?_
    rotate_left
    · intro W hW
      go_simp
      try with_reducible rfl
    try simp only [List.getElem_toArray, List.getElem_cons_zero, List.getElem_cons_succ, Act.put, List.setIfInBounds_toArray, List.set_cons_zero, List.set_cons_succ]
    refine anyC_take (i := 3) (v := ?_) rfl (by kernel_rfl) (by kernel_rfl) (by kernel_rfl) (fun _ _ _ h => h) (And.intro X_6.out (And.intro S_6.out (And.intro C_6.out (And.intro Y_6.out D_6.out)))) (Or.inl ⟨by rfl, ?_⟩) ?_
    rotate_left
    · intro W hW
      go_simp
      try with_reducible rfl
    try simp only [List.getElem_toArray, List.getElem_cons_zero, List.getElem_cons_succ, Act.put, List.setIfInBounds_toArray, List.set_cons_zero, List.set_cons_succ]
    refine anyC_take (i := 9) (v := ?_) rfl (by kernel_rfl) (by kernel_rfl) (by kernel_rfl) (fun _ _ _ h => h) (And.intro X_6.out (And.intro S_6.out (And.intro C_6.out (And.intro Y_6.out D_6.out)))) (Or.inl ⟨by rfl, ?_⟩) ?_
    rotate_left
    · intro W hW
      go_simp
      try with_reducible rfl
    try simp only [List.getElem_toArray, List.getElem_cons_zero, List.getElem_cons_succ, Act.put, List.setIfInBounds_toArray, List.set_cons_zero, List.set_cons_succ]
    refine anyC_take (i := 11) (v := ?_) rfl (by kernel_rfl) (by kernel_rfl) (by kernel_rfl) (fun _ _ _ h => h) (And.intro X_6.out (And.intro S_6.out (And.intro C_6.out (And.intro Y_6.out D_6.out)))) (Or.inl ⟨by rfl, ?_⟩) ?_
    rotate_left
    · intro W hW
      go_simp
      try with_reducible rfl
    try simp only [List.getElem_toArray, List.getElem_cons_zero, List.getElem_cons_succ, Act.put, List.setIfInBounds_toArray, List.set_cons_zero, List.set_cons_succ]
    refine anyC_take (i := 13) (v := ?_) rfl (by kernel_rfl) (by kernel_rfl) (by kernel_rfl) (fun _ _ _ h => h) (And.intro X_6.out (And.intro S_6.out (And.intro C_6.out (And.intro Y_6.out D_6.out)))) (Or.inl ⟨by rfl, ?_⟩) ?_
    rotate_left
    · intro W hW
      go_simp
      try with_reducible rfl
    try simp only [List.getElem_toArray, List.getElem_cons_zero, List.getElem_cons_succ, Act.put, List.setIfInBounds_toArray, List.set_cons_zero, List.set_cons_succ]
    refine anyC_take (i := 15) (v := ?_) rfl (by kernel_rfl) (by kernel_rfl) (by kernel_rfl) (fun _ _ _ h => h) (And.intro X_6.out (And.intro S_6.out (And.intro C_6.out (And.intro Y_6.out D_6.out)))) (Or.inl ⟨by rfl, ?_⟩) ?_
    rotate_left
    · intro W hW
      go_simp
      try with_reducible rfl
    try simp only [List.getElem_toArray, List.getElem_cons_zero, List.getElem_cons_succ, Act.put, List.setIfInBounds_toArray, List.set_cons_zero, List.set_cons_succ]
    refine anyC_take (i := 17) (v := ?_) rfl (by kernel_rfl) (by kernel_rfl) (by kernel_rfl) (fun _ _ _ h => h) (And.intro X_6.out (And.intro S_6.out (And.intro C_6.out (And.intro Y_6.out D_6.out)))) (Or.inl ⟨by rfl, ?_⟩) ?_
    rotate_left
    · intro W hW
      go_simp
      try with_reducible rfl
    try simp only [List.getElem_toArray, List.getElem_cons_zero, List.getElem_cons_succ, Act.put, List.setIfInBounds_toArray, List.set_cons_zero, List.set_cons_succ]
    refine anyC_take (i := 2) (v := ?_) rfl (by kernel_rfl) (by kernel_rfl) (by kernel_rfl) (fun _ _ _ h => h) (And.intro X_6.out (And.intro S_6.out (And.intro C_6.out (And.intro Y_6.out D_6.out)))) (Or.inl ⟨by rfl, ?_⟩) ?_
    rotate_left
    · intro W hW
      have y0 : W.cell? ⟨w2.heap.size, 0, none⟩ = some (.int .i64 st) := hW.2.2.2.1.cell 0
      have y1 : W.cell? ⟨w2.heap.size, 1, none⟩ = some (.int .i64 ss) := hW.2.2.2.1.cell 1
      go_simp
      try with_reducible rfl
    try simp only [List.getElem_toArray, List.getElem_cons_zero, List.getElem_cons_succ, Act.put, List.setIfInBounds_toArray, List.set_cons_zero, List.set_cons_succ]
    refine anyC_take (i := 4) (v := ?_) rfl (by kernel_rfl) (by kernel_rfl) (by kernel_rfl) (fun _ _ _ h => h) (And.intro X_6.out (And.intro S_6.out (And.intro C_6.out (And.intro Y_6.out D_6.out)))) (Or.inl ⟨by rfl, ?_⟩) ?_
    rotate_left
    · intro W hW
      have s0 : W.cell? ⟨w.heap.size + 1, 0, none⟩ = some (.int .i64 sid) := hW.2.1.cell 0
      go_simp
      try with_reducible rfl
    try simp only [List.getElem_toArray, List.getElem_cons_zero, List.getElem_cons_succ, Act.put, List.setIfInBounds_toArray, List.set_cons_zero, List.set_cons_succ]
    refine anyC_take (i := 5) (v := ?_) rfl (by kernel_rfl) (by kernel_rfl) (by kernel_rfl) (fun _ _ _ h => h) (And.intro X_6.out (And.intro S_6.out (And.intro C_6.out (And.intro Y_6.out D_6.out)))) (Or.inl ⟨by rfl, ?_⟩) ?_
    rotate_left
    · intro W hW
      have s0 : W.cell? ⟨w.heap.size + 1, 0, none⟩ = some (.int .i64 sid) := hW.2.1.cell 0
      have s1 : W.cell? ⟨w.heap.size + 1, 1, none⟩ = some (.bool sel) := hW.2.1.cell 1
      have s2 : W.cell? ⟨w.heap.size + 1, 2, none⟩ = some (.slice Au m cu) := hW.2.1.cell 2
      go_simp
      try with_reducible rfl
    try simp only [List.getElem_toArray, List.getElem_cons_zero, List.getElem_cons_succ, Act.put, List.setIfInBounds_toArray, List.set_cons_zero, List.set_cons_succ]
    refine anyC_take (i := 7) (v := ?_) rfl (by kernel_rfl) (by kernel_rfl) (by kernel_rfl) (fun _ _ _ h => h) (And.intro X_6.out (And.intro S_6.out (And.intro C_6.out (And.intro Y_6.out D_6.out)))) (Or.inl ⟨by rfl, ?_⟩) ?_
    rotate_left
    · intro W hW
      have d0 : W.cell? ⟨w2.heap.size + 1, 0, none⟩ = some (.string ⟨#[120]⟩) := hW.2.2.2.2.cell 0
      have d1 : W.cell? ⟨w2.heap.size + 1, 1, none⟩ = some (.int .i64 kind) := hW.2.2.2.2.cell 1
      have d2 : W.cell? ⟨w2.heap.size + 1, 2, none⟩ = some (.string mb) := hW.2.2.2.2.cell 2
      have d3 : W.cell? ⟨w2.heap.size + 1, 3, none⟩ = some (.slice A n cap) := hW.2.2.2.2.cell 3
      have d4 : W.cell? ⟨w2.heap.size + 1, 4, none⟩ = some (.int .i64 items) := hW.2.2.2.2.cell 4
      have d5 : W.cell? ⟨w2.heap.size + 1, 5, none⟩ = some (.int .i64 0) := hW.2.2.2.2.cell 5
      have d6 : W.cell? ⟨w2.heap.size + 1, 6, none⟩ = some (.bool false) := hW.2.2.2.2.cell 6
      have d7 : W.cell? ⟨w2.heap.size + 1, 7, none⟩ = some (.int .u8 0) := hW.2.2.2.2.cell 7
      have d8 : W.cell? ⟨w2.heap.size + 1, 8, none⟩ = some (.slice none 0 0) := hW.2.2.2.2.cell 8
      go_simp
      try with_reducible rfl
    try simp only [List.getElem_toArray, List.getElem_cons_zero, List.getElem_cons_succ, Act.put, List.setIfInBounds_toArray, List.set_cons_zero, List.set_cons_succ]
    refine anyC_take (i := 10) (v := ?_) rfl (by kernel_rfl) (by kernel_rfl) (by kernel_rfl) (fun _ _ _ h => h) (And.intro X_6.out (And.intro S_6.out (And.intro C_6.out (And.intro Y_6.out D_6.out)))) (Or.inl ⟨by rfl, ?_⟩) ?_
    rotate_left
    · intro W hW
      have y0 : W.cell? ⟨w2.heap.size, 0, none⟩ = some (.int .i64 st) := hW.2.2.2.1.cell 0
      go_simp
      try with_reducible rfl
    try simp only [List.getElem_toArray, List.getElem_cons_zero, List.getElem_cons_succ, Act.put, List.setIfInBounds_toArray, List.set_cons_zero, List.set_cons_succ]
    refine anyC_take (i := 12) (v := ?_) rfl (by kernel_rfl) (by kernel_rfl) (by kernel_rfl) (fun _ _ _ h => h) (And.intro X_6.out (And.intro S_6.out (And.intro C_6.out (And.intro Y_6.out D_6.out)))) (Or.inl ⟨by rfl, ?_⟩) ?_
    rotate_left
    · intro W hW
      have y1 : W.cell? ⟨w2.heap.size, 1, none⟩ = some (.int .i64 ss) := hW.2.2.2.1.cell 1
      go_simp
      try with_reducible rfl
    try simp only [List.getElem_toArray, List.getElem_cons_zero, List.getElem_cons_succ, Act.put, List.setIfInBounds_toArray, List.set_cons_zero, List.set_cons_succ]
    refine anyC_take (i := 14) (v := ?_) rfl (by kernel_rfl) (by kernel_rfl) (by kernel_rfl) (fun _ _ _ h => h) (And.intro X_6.out (And.intro S_6.out (And.intro C_6.out (And.intro Y_6.out D_6.out)))) (Or.inl ⟨by rfl, ?_⟩) ?_
    rotate_left
    · intro W hW
      have s0 : W.cell? ⟨w.heap.size + 1, 0, none⟩ = some (.int .i64 sid) := hW.2.1.cell 0
      go_simp
      try with_reducible rfl
    try simp only [List.getElem_toArray, List.getElem_cons_zero, List.getElem_cons_succ, Act.put, List.setIfInBounds_toArray, List.set_cons_zero, List.set_cons_succ]
    refine anyC_take (i := 16) (v := ?_) rfl (by kernel_rfl) (by kernel_rfl) (by kernel_rfl) (fun _ _ _ h => h) (And.intro X_6.out (And.intro S_6.out (And.intro C_6.out (And.intro Y_6.out D_6.out)))) (Or.inl ⟨by rfl, ?_⟩) ?_
    rotate_left
    · intro W hW
      have s1 : W.cell? ⟨w.heap.size + 1, 1, none⟩ = some (.bool sel) := hW.2.1.cell 1
      go_simp
      try with_reducible rfl
    try simp only [List.getElem_toArray, List.getElem_cons_zero, List.getElem_cons_succ, Act.put, List.setIfInBounds_toArray, List.set_cons_zero, List.set_cons_succ]
    refine anyC_take (i := 18) (v := ?_) rfl (by kernel_rfl) (by kernel_rfl) (by kernel_rfl) (fun _ _ _ h => h) (And.intro X_6.out (And.intro S_6.out (And.intro C_6.out (And.intro Y_6.out D_6.out)))) (Or.inl ⟨by rfl, ?_⟩) ?_
    rotate_left
    · intro W hW
      have s2 : W.cell? ⟨w.heap.size + 1, 2, none⟩ = some (.slice Au m cu) := hW.2.1.cell 2
      go_simp
      try with_reducible rfl
    try simp only [List.getElem_toArray, List.getElem_cons_zero, List.getElem_cons_succ, Act.put, List.setIfInBounds_toArray, List.set_cons_zero, List.set_cons_succ]
    refine anyC_take (i := 20) (v := ?_) rfl (by kernel_rfl) (by kernel_rfl) (by kernel_rfl) (fun _ _ _ h => h) (And.intro X_6.out (And.intro S_6.out (And.intro C_6.out (And.intro Y_6.out D_6.out)))) (Or.inl ⟨by rfl, ?_⟩) ?_
    rotate_left
    · intro W hW
      have c0 : W.cell? ⟨w.heap.size + 1 + 1, 0, none⟩ = some (.string tg) := hW.2.2.1.cell 0
      have c1 : W.cell? ⟨w.heap.size + 1 + 1, 1, none⟩ = some (.int .i64 kind) := hW.2.2.1.cell 1
      have c2 : W.cell? ⟨w.heap.size + 1 + 1, 2, none⟩ = some (.string mb) := hW.2.2.1.cell 2
      have c3 : W.cell? ⟨w.heap.size + 1 + 1, 3, none⟩ = some (.slice A n cap) := hW.2.2.1.cell 3
      have c4 : W.cell? ⟨w.heap.size + 1 + 1, 4, none⟩ = some (.int .i64 items) := hW.2.2.1.cell 4
      have c5 : W.cell? ⟨w.heap.size + 1 + 1, 5, none⟩ = some (.int .i64 mode) := hW.2.2.1.cell 5
      have c6 : W.cell? ⟨w.heap.size + 1 + 1, 6, none⟩ = some (.bool sil) := hW.2.2.1.cell 6
      have c7 : W.cell? ⟨w.heap.size + 1 + 1, 7, none⟩ = some (.int .u8 fl) := hW.2.2.1.cell 7
      have c8 : W.cell? ⟨w.heap.size + 1 + 1, 8, none⟩ = some (.slice D nd cd) := hW.2.2.1.cell 8
      go_simp
      try with_reducible rfl
    try simp only [List.getElem_toArray, List.getElem_cons_zero, List.getElem_cons_succ, Act.put, List.setIfInBounds_toArray, List.set_cons_zero, List.set_cons_succ]
    refine anyC_one (i := 6) (by kernel_rfl) (fun K hK => ⟨_, rfl, by kernel_rfl, ?_⟩)
    go_simp
    refine (HLk.out _ U_6.out).mono ?_
    rintro e w6 ⟨p, rfl, hv6, hp, hb6⟩
    have B_7 := Lib.hid (B_6.out.trans (hb6.mono B_6.out.size))
    have X_7 := Lib.hid (X_6.out.below hb6 X_6.out.lt)
    have S_7 := Lib.hid (S_6.out.below hb6 S_6.out.lt)
    have C_7 := Lib.hid (C_6.out.below hb6 C_6.out.lt)
    have U_7 := Lib.hid ((U_6.out.below hb6 (Nat.le_refl _)).mono hb6.size)
    have R_7 := Lib.hid ((R_6.out.below hb6 (Nat.le_refl _)).mono hb6.size)
    have Y_7 := Lib.hid (Y_6.out.below hb6 Y_6.out.lt)
    have D_7 := Lib.hid (D_6.out.below hb6 D_6.out.lt)
    have V_7 := Lib.hid (hv6)
    clear B_6 X_6 S_6 C_6 U_6 R_6 Y_6 D_6 hb6 hv6
    refine hK _ _ (And.intro X_7.out (And.intro S_7.out (And.intro C_7.out (And.intro Y_7.out D_7.out)))) ?_
    clear hK K
    try simp only [List.getElem_toArray, List.getElem_cons_zero, List.getElem_cons_succ, Act.put, List.setIfInBounds_toArray, List.set_cons_zero, List.set_cons_succ]
    refine anyC_one (i := 8) (by kernel_rfl) (fun K hK => ⟨_, rfl, by kernel_rfl, ?_⟩)
    go_simp
    refine (HFr.out p hp _ V_7.out R_7.out).mono ?_
    rintro e w7 ⟨v7, rfl, hv7, hb7⟩
    have B_8 := Lib.hid (B_7.out.trans (hb7.mono B_7.out.size))
    have X_8 := Lib.hid (X_7.out.below hb7 X_7.out.lt)
    have S_8 := Lib.hid (S_7.out.below hb7 S_7.out.lt)
    have C_8 := Lib.hid (C_7.out.below hb7 C_7.out.lt)
    have U_8 := Lib.hid ((U_7.out.below hb7 (Nat.le_refl _)).mono hb7.size)
    have R_8 := Lib.hid ((R_7.out.below hb7 (Nat.le_refl _)).mono hb7.size)
    have Y_8 := Lib.hid (Y_7.out.below hb7 Y_7.out.lt)
    have D_8 := Lib.hid (D_7.out.below hb7 D_7.out.lt)
    have V_8 := Lib.hid ((V_7.out.below hb7 (Nat.le_refl _)).mono hb7.size)
    have G_8 := Lib.hid (lb_rd hv7)
    clear B_7 X_7 S_7 C_7 U_7 R_7 Y_7 D_7 V_7 hb7 hv7
    refine hK _ _ (And.intro X_8.out (And.intro S_8.out (And.intro C_8.out (And.intro Y_8.out D_8.out)))) ?_
    clear hK K
    try simp only [List.getElem_toArray, List.getElem_cons_zero, List.getElem_cons_succ, Act.put, List.setIfInBounds_toArray, List.set_cons_zero, List.set_cons_succ]
    refine anyC_one (i := 19) (by kernel_rfl) (fun K hK => ⟨_, rfl, by kernel_rfl, ?_⟩)
    go_simp
    refine (HNw.out _ U_8.out).mono ?_
    rintro e w8 ⟨v8, rfl, hv8, hb8⟩
    have B_9 := Lib.hid (B_8.out.trans (hb8.mono B_8.out.size))
    have X_9 := Lib.hid (X_8.out.below hb8 X_8.out.lt)
    have S_9 := Lib.hid (S_8.out.below hb8 S_8.out.lt)
    have C_9 := Lib.hid (C_8.out.below hb8 C_8.out.lt)
    have U_9 := Lib.hid ((U_8.out.below hb8 (Nat.le_refl _)).mono hb8.size)
    have R_9 := Lib.hid ((R_8.out.below hb8 (Nat.le_refl _)).mono hb8.size)
    have Y_9 := Lib.hid (Y_8.out.below hb8 Y_8.out.lt)
    have D_9 := Lib.hid (D_8.out.below hb8 D_8.out.lt)
    have V_9 := Lib.hid ((V_8.out.below hb8 (Nat.le_refl _)).mono hb8.size)
    have G_9 := Lib.hid ((G_8.out.below hb8 (Nat.le_refl _)).mono hb8.size)
    have N_9 := Lib.hid (U32.of_buf hv8)
    clear B_8 X_8 S_8 C_8 U_8 R_8 Y_8 D_8 V_8 G_8 hb8 hv8
    refine hK _ _ (And.intro X_9.out (And.intro S_9.out (And.intro C_9.out (And.intro Y_9.out D_9.out)))) ?_
    clear hK K
    try simp only [List.getElem_toArray, List.getElem_cons_zero, List.getElem_cons_succ, Act.put, List.setIfInBounds_toArray, List.set_cons_zero, List.set_cons_succ]
    refine anyC_one (i := 21) (by kernel_rfl) (fun K hK => ⟨_, rfl, by kernel_rfl, ?_⟩)
    go_simp
    refine (HRf.out v8 _ N_9.out R_9.out).mono ?_
    rintro e w9 ⟨v9, rfl, hv9, hb9⟩
    have B_10 := Lib.hid (B_9.out.trans (hb9.mono B_9.out.size))
    have X_10 := Lib.hid (X_9.out.below hb9 X_9.out.lt)
    have S_10 := Lib.hid (S_9.out.below hb9 S_9.out.lt)
    have C_10 := Lib.hid (C_9.out.below hb9 C_9.out.lt)
    have U_10 := Lib.hid ((U_9.out.below hb9 (Nat.le_refl _)).mono hb9.size)
    have R_10 := Lib.hid ((R_9.out.below hb9 (Nat.le_refl _)).mono hb9.size)
    have Y_10 := Lib.hid (Y_9.out.below hb9 Y_9.out.lt)
    have D_10 := Lib.hid (D_9.out.below hb9 D_9.out.lt)
    have V_10 := Lib.hid ((V_9.out.below hb9 (Nat.le_refl _)).mono hb9.size)
    have G_10 := Lib.hid ((G_9.out.below hb9 (Nat.le_refl _)).mono hb9.size)
    have N_10 := Lib.hid ((N_9.out.below hb9 (Nat.le_refl _)).mono hb9.size)
    have Q_10 := Lib.hid (lb_rd hv9)
    clear B_9 X_9 S_9 C_9 U_9 R_9 Y_9 D_9 V_9 G_9 N_9 hb9 hv9
    refine hK _ _ (And.intro X_10.out (And.intro S_10.out (And.intro C_10.out (And.intro Y_10.out D_10.out)))) ?_
    clear hK K
    try simp only [List.getElem_toArray, List.getElem_cons_zero, List.getElem_cons_succ, Act.put, List.setIfInBounds_toArray, List.set_cons_zero, List.set_cons_succ]
    refine anyC_one (i := 22) (by kernel_rfl) (fun K hK => ⟨_, rfl, by kernel_rfl, ?_⟩)
    go_simp
    refine (eq_i64 G_10.out Q_10.out (by have := HTl.out; omega) (by have := HTl.out; omega)).mono ?_
    rintro e w10 ⟨rfl, q10, rfl⟩
    rw [decide_eq_true (show T = T from rfl)]
    have hb10 : Below w9.heap.size w9 (w9.drewN q10) := below_drewN _ _
    have B_11 := Lib.hid (B_10.out.trans (hb10.mono B_10.out.size))
    have X_11 := Lib.hid (X_10.out.below hb10 X_10.out.lt)
    have S_11 := Lib.hid (S_10.out.below hb10 S_10.out.lt)
    have C_11 := Lib.hid (C_10.out.below hb10 C_10.out.lt)
    have U_11 := Lib.hid ((U_10.out.below hb10 (Nat.le_refl _)).mono hb10.size)
    have R_11 := Lib.hid ((R_10.out.below hb10 (Nat.le_refl _)).mono hb10.size)
    have Y_11 := Lib.hid (Y_10.out.below hb10 Y_10.out.lt)
    have D_11 := Lib.hid (D_10.out.below hb10 D_10.out.lt)
    have V_11 := Lib.hid ((V_10.out.below hb10 (Nat.le_refl _)).mono hb10.size)
    have G_11 := Lib.hid ((G_10.out.below hb10 (Nat.le_refl _)).mono hb10.size)
    have N_11 := Lib.hid ((N_10.out.below hb10 (Nat.le_refl _)).mono hb10.size)
    have Q_11 := Lib.hid ((Q_10.out.below hb10 (Nat.le_refl _)).mono hb10.size)
    clear B_10 X_10 S_10 C_10 U_10 R_10 Y_10 D_10 V_10 G_10 N_10 Q_10 hb10
    refine hK _ _ (And.intro X_11.out (And.intro S_11.out (And.intro C_11.out (And.intro Y_11.out D_11.out)))) ?_
    clear hK K
    try simp only [List.getElem_toArray, List.getElem_cons_zero, List.getElem_cons_succ, Act.put, List.setIfInBounds_toArray, List.set_cons_zero, List.set_cons_succ]
    refine anyC_take (i := 23) (v := ?_) rfl (by kernel_rfl) (by kernel_rfl) (by kernel_rfl) (fun _ _ _ h => h) (And.intro X_11.out (And.intro S_11.out (And.intro C_11.out (And.intro Y_11.out D_11.out)))) (Or.inl ⟨by rfl, ?_⟩) ?_
    rotate_left
    · intro W hW
      go_simp
      try with_reducible rfl
    try simp only [List.getElem_toArray, List.getElem_cons_zero, List.getElem_cons_succ, Act.put, List.setIfInBounds_toArray, List.set_cons_zero, List.set_cons_succ]
    refine anyC_take (i := 24) (v := ?_) rfl (by kernel_rfl) (by kernel_rfl) (by kernel_rfl) (fun _ _ _ h => h) (And.intro X_11.out (And.intro S_11.out (And.intro C_11.out (And.intro Y_11.out D_11.out)))) (Or.inl ⟨by rfl, ?_⟩) ?_
    rotate_left
    · intro W hW
      go_simp
      try with_reducible rfl
    try simp only [List.getElem_toArray, List.getElem_cons_zero, List.getElem_cons_succ, Act.put, List.setIfInBounds_toArray, List.set_cons_zero, List.set_cons_succ]
    refine anyC_take (i := 25) (v := ?_) rfl (by kernel_rfl) (by kernel_rfl) (by kernel_rfl) (fun _ _ _ h => h) (And.intro X_11.out (And.intro S_11.out (And.intro C_11.out (And.intro Y_11.out D_11.out)))) (Or.inl ⟨by rfl, ?_⟩) ?_
    rotate_left
    · intro W hW
      have y0 : W.cell? ⟨w2.heap.size, 0, none⟩ = some (.int .i64 st) := hW.2.2.2.1.cell 0
      have y1 : W.cell? ⟨w2.heap.size, 1, none⟩ = some (.int .i64 ss) := hW.2.2.2.1.cell 1
      go_simp
      try with_reducible rfl
    try simp only [List.getElem_toArray, List.getElem_cons_zero, List.getElem_cons_succ, Act.put, List.setIfInBounds_toArray, List.set_cons_zero, List.set_cons_succ]
    refine anyC_take (i := 26) (v := ?_) rfl (by kernel_rfl) (by kernel_rfl) (by kernel_rfl) (fun _ _ _ h => h) (And.intro X_11.out (And.intro S_11.out (And.intro C_11.out (And.intro Y_11.out D_11.out)))) (Or.inl ⟨by rfl, ?_⟩) ?_
    rotate_left
    · intro W hW
      have x0 : W.cell? ⟨w.heap.size, 0, none⟩ = some (.int .u8 a) := hW.1.cell 0
      have x1 : W.cell? ⟨w.heap.size, 1, none⟩ = some (.int .u8 b) := hW.1.cell 1
      go_simp
      try with_reducible rfl
    try simp only [List.getElem_toArray, List.getElem_cons_zero, List.getElem_cons_succ, Act.put, List.setIfInBounds_toArray, List.set_cons_zero, List.set_cons_succ]
    refine anyC_one (i := 27) (by kernel_rfl) (fun K hK => ⟨_, rfl, by kernel_rfl, ?_⟩)
    go_simp
    refine (HY.out _).mono ?_
    rintro e w11 ⟨rfl, hb11⟩
    have B_12 := Lib.hid (B_11.out.trans (hb11.mono B_11.out.size))
    have X_12 := Lib.hid (X_11.out.below hb11 X_11.out.lt)
    have S_12 := Lib.hid (S_11.out.below hb11 S_11.out.lt)
    have C_12 := Lib.hid (C_11.out.below hb11 C_11.out.lt)
    have U_12 := Lib.hid ((U_11.out.below hb11 (Nat.le_refl _)).mono hb11.size)
    have R_12 := Lib.hid ((R_11.out.below hb11 (Nat.le_refl _)).mono hb11.size)
    have Y_12 := Lib.hid (Y_11.out.below hb11 Y_11.out.lt)
    have D_12 := Lib.hid (D_11.out.below hb11 D_11.out.lt)
    have V_12 := Lib.hid ((V_11.out.below hb11 (Nat.le_refl _)).mono hb11.size)
    have G_12 := Lib.hid ((G_11.out.below hb11 (Nat.le_refl _)).mono hb11.size)
    have N_12 := Lib.hid ((N_11.out.below hb11 (Nat.le_refl _)).mono hb11.size)
    have Q_12 := Lib.hid ((Q_11.out.below hb11 (Nat.le_refl _)).mono hb11.size)
    clear B_11 X_11 S_11 C_11 U_11 R_11 Y_11 D_11 V_11 G_11 N_11 Q_11 hb11
    refine hK _ _ (And.intro X_12.out (And.intro S_12.out (And.intro C_12.out (And.intro Y_12.out D_12.out)))) ?_
    clear hK K
    try simp only [List.getElem_toArray, List.getElem_cons_zero, List.getElem_cons_succ, Act.put, List.setIfInBounds_toArray, List.set_cons_zero, List.set_cons_succ]
    refine anyC_take (i := 28) (v := ?_) rfl (by kernel_rfl) (by kernel_rfl) (by kernel_rfl) (fun _ _ _ h => h) (And.intro X_12.out (And.intro S_12.out (And.intro C_12.out (And.intro Y_12.out D_12.out)))) (Or.inl ⟨by rfl, ?_⟩) ?_
    rotate_left
    · intro W hW
      go_simp
      try with_reducible rfl
    try simp only [List.getElem_toArray, List.getElem_cons_zero, List.getElem_cons_succ, Act.put, List.setIfInBounds_toArray, List.set_cons_zero, List.set_cons_succ]
    refine anyC_take (i := 29) (v := ?_) rfl (by kernel_rfl) (by kernel_rfl) (by kernel_rfl) (fun _ _ _ h => h) (And.intro X_12.out (And.intro S_12.out (And.intro C_12.out (And.intro Y_12.out D_12.out)))) (Or.inl ⟨by rfl, ?_⟩) ?_
    rotate_left
    · intro W hW
      go_simp
      try with_reducible rfl
    try simp only [List.getElem_toArray, List.getElem_cons_zero, List.getElem_cons_succ, Act.put, List.setIfInBounds_toArray, List.set_cons_zero, List.set_cons_succ]
    refine anyC_take (i := 30) (v := ?_) rfl (by kernel_rfl) (by kernel_rfl) (by kernel_rfl) (fun _ _ _ h => h) (And.intro X_12.out (And.intro S_12.out (And.intro C_12.out (And.intro Y_12.out D_12.out)))) (Or.inl ⟨by rfl, ?_⟩) ?_
    rotate_left
    · intro W hW
      go_simp
      try with_reducible rfl
    try simp only [List.getElem_toArray, List.getElem_cons_zero, List.getElem_cons_succ, Act.put, List.setIfInBounds_toArray, List.set_cons_zero, List.set_cons_succ]
    refine anyC_done (by kernel_rfl) ?_ _
    go_wp2_with fail
    go_ret
    exact ⟨rfl, B_12.out⟩
end Go.Proofs.YtamholmjppgfiaaGreat
