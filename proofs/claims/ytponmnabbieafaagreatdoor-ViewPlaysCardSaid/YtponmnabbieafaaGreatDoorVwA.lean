/- view.Apply. -/
import Derived.Test.YtponmnabbieafaaGreatDoorVwI
set_option linter.unusedVariables false
set_option linter.unusedSimpArgs false
namespace Go.Proofs.YtponmnabbieafaaGreatDoor
open Go Go.RowKit Go.Shelf Go.Lib Go.Sort

/-- The cells of a response of a view. -/
def rpC (r : Rp) : List Value := [.int .i64 r.kind, .int .u32 (r.n : Nat), .string ⟨#[]⟩, .int .i64 0, .string ⟨#[]⟩, .int .i64 r.items, .int .u8 (r.fl : Nat), .int .u32 0, .int .u32 0, .slice none 0 0]
theorem rpC_one (r : Rp) : ∀ u ∈ rpC r, u.oneCell' = true := fun u hu => by
  simp only [rpC, List.mem_cons, List.not_mem_nil, or_false] at hu
  rcases hu with rfl | rfl | rfl | rfl | rfl | rfl | rfl | rfl | rfl | rfl <;> rfl
theorem infoRsp : (Tryz.prog.info? 49).map (fun i => (i.zero, i.size, i.bytes)) = some (some (.agg #[.int .i64 0, .int .u32 0, .string ⟨#[]⟩, .int .i64 0, .string ⟨#[]⟩, .int .i64 0, .int .u8 0, .int .u32 0, .int .u32 0, .slice none 0 0]), 10, 104) := by kernel_rfl
/-- The answer's variable at ob holds a slice of its own that reads as L. -/
def OutM (W : World) (B ob : Nat) (ov : Value) (L : List Rp) : Prop := Blk W ob 29 #[ov] ∧ Buf W B 10 ov L.length (L.flatMap rpC) ∧ ov.ownBlock ≠ some ob ∧ B ≤ ob
theorem OutM.own_lt {W : World} {B b : Nat} {v : Value} {l : List Rp} (h : OutM W B b v l) (j : Nat) (e : v.ownBlock = some j) : j < W.heap.size ∧ B ≤ j := by
  rcases h.2.1.2 with ⟨rfl, _⟩ | ⟨g, off, cap, rfl, h1, h2, _⟩
  · cases e
  · have e' : g = j := by simpa [Value.ownBlock] using e
    omega
theorem OutM.kept {W W' : World} {B b : Nat} {v : Value} {l : List Rp} (h : OutM W B b v l) (hs : W.heap.size ≤ W'.heap.size) (hb : W'.heap[b]? = W.heap[b]?) (hk : ∀ k, k < W.heap.size → v.ownBlock = some k → W'.heap[k]? = W.heap[k]?) : OutM W' B b v l :=
  ⟨hb.trans h.1, h.2.1.kept hs hk, h.2.2⟩
theorem push_out {B b : Nat} {v : Value} {l : List Rp} {W : World} (h : OutM W B b v l) (r : Rp) (hl : l.length ≤ 1048576) :
    ∃ v' g1 o1 n1 c1 w', v' = .slice (some ⟨g1, o1, none⟩) n1 c1 ∧ (Builtin.append_ #[29, 29] 29 #[v, .slice (some ⟨W.heap.size, 0, none⟩) 1 1]).run Tryz.prog (W.alloc (.cells (rpC r).toArray 49)) = .ok v' w' ∧
      w'.frozen? ⟨b, 0, none⟩ = false ∧ (w'.cell? ⟨b, 0, none⟩).isSome = true ∧ OutM (w'.setCell ⟨b, 0, none⟩ v') B b v' (l ++ [r]) ∧ (∀ n, n ≤ B → Below n W (w'.setCell ⟨b, 0, none⟩ v')) ∧ Kp1 W (w'.setCell ⟨b, 0, none⟩ v') b v v' := by
  obtain ⟨h1, h2, h3, h4⟩ := h
  have hBs : B ≤ W.heap.size := Nat.le_of_lt (Nat.lt_of_le_of_lt h4 h1.lt)
  obtain ⟨i0, hi, hz0, hz1, hz2⟩ : ∃ i, Tryz.prog.info? 49 = some i ∧ i.zero = some (.agg #[.int .i64 0, .int .u32 0, .string ⟨#[]⟩, .int .i64 0, .string ⟨#[]⟩, .int .i64 0, .int .u8 0, .int .u32 0, .int .u32 0, .slice none 0 0]) ∧ i.size = 10 ∧ i.bytes = 104 := by
    have hh := infoRsp
    cases hq : Tryz.prog.info? 49 with
    | none => rw [hq] at hh; cases hh
    | some i =>
      rw [hq] at hh
      simp only [Option.map_some, Option.some.injEq, Prod.mk.injEq] at hh
      exact ⟨i, rfl, hh.1, hh.2.1, hh.2.2⟩
  obtain ⟨v', w', hrun, hb', hgr, hrw⟩ := run_append_buf (P := Tryz.prog) (W.alloc (.cells (rpC r).toArray 49)) 29 29 49 i0 _ 10 104 Tryz.underlying29 hi hz0 hz1 hz2 rfl (by decide) B v l.length _ (h2.past _) (some ⟨W.heap.size, 0, none⟩) 1 1 (rpC r)
    ⟨rfl, rpC_one r, fun _ => ⟨_, rfl, fun j y hj => by
      rw [Go.WideShapes.add_plain]
      simp only [World.cell?, heap_alloc_new, Nat.zero_add]
      simpa using hj⟩⟩ (by unfold maxLen; omega) (by omega) (by rw [World.size_alloc]; omega)
  have hblt := h1.lt
  have hne : v'.ownBlock ≠ some b := by
    rcases hrw with e | ⟨g, e, hg⟩
    · rw [e]; exact h3
    · rw [e]
      intro e2
      injection e2 with e2
      rw [World.size_alloc] at hg
      omega
  have hblk : Blk w' b 29 #[v] := (h1.past _).grown hgr (fun e => h3 e.symm)
  have hown : ∀ j, v.ownBlock = some j → B ≤ j := fun j e => by
    rcases h2.2 with ⟨rfl, _⟩ | ⟨g, off, cap, rfl, k1, _⟩
    · cases e
    · have e' : g = j := by simpa [Value.ownBlock] using e
      omega
  obtain ⟨g1, o1, c1, hv1⟩ : ∃ g1 o1 c1, v' = .slice (some ⟨g1, o1, none⟩) (l.length + 1) c1 := by
    rcases hb'.2 with ⟨_, e⟩ | ⟨g, off, cap, e, _⟩
    · omega
    · exact ⟨g, off, cap, e⟩
  refine ⟨v', g1, o1, _, c1, w', hv1, hrun, hblk.frz 0, ?_, ⟨?_, ?_, hne, h4⟩, fun n hn => ?_, fun g hg hgb hgo => ?_⟩
  · rw [hblk.cell 0]; rfl
  · have := hblk.put 0 v'
    exact this
  · have := hb'.far (p := ⟨b, 0, none⟩) (by exact hne) v'
    rw [List.length_append, List.flatMap_append, show ([r].flatMap rpC) = rpC r by simp]
    exact this
  · exact (((Below.refl _ W).alloc (by omega) _).grown hgr (by rw [World.size_alloc]; omega) (fun j e => by have := hown j e; omega)).setCell (by show n ≤ b; omega) _
  · have hno : v'.ownBlock ≠ some g := by
      rcases hrw with e | ⟨q, e, hq⟩
      · rw [e]; exact hgo
      · rw [e]
        intro e2
        injection e2 with e2
        rw [World.size_alloc] at hq
        omega
    refine ⟨?_, hno⟩
    rw [Below.heap_setCell w' ⟨b, 0, none⟩ v' g hgb, hgr.block g (by rw [World.size_alloc]; omega) (fun e => hgo e.symm)]
    exact Below.heap_alloc W _ g hg

set_option maxRecDepth 100000 in
set_option maxHeartbeats 3200000 in
theorem add_any (B ob : Nat) (ov : Value) (L : List Rp) (r : Rp) (ok : Bool) (w : World) (h : OutM w B ob ov L) (hl : L.length ≤ 1000000) :
    Calls Tryz.prog 23 #[.agg (rpC r).toArray, .bool ok, .pointer (some ⟨ob, 0, none⟩)] w fun e w' => e = .returned (.tuple #[]) ∧ ∃ ov', OutM w' B ob ov' (L ++ if ok then [r] else []) ∧ (∀ n, n ≤ B → Below n w w') ∧ Kp1 w w' ob ov ov' ∧ w.heap.size ≤ w'.heap.size := by
  have hBs : B ≤ w.heap.size := Nat.le_of_lt (Nat.lt_of_le_of_lt h.2.2.2 h.1.lt)
  obtain ⟨kd, n, it, fl⟩ := r
  have hb0 : Below w.heap.size w (w.alloc (.cells #[.int .i64 kd, .int .u32 (n : Nat), .string ⟨#[]⟩, .int .i64 0, .string ⟨#[]⟩, .int .i64 it, .int .u8 (fl : Nat), .int .u32 0, .int .u32 0, .slice none 0 0] 49)) := (Below.refl _ w).alloc (Nat.le_refl _) _
  have hO : OutM (w.alloc (.cells #[.int .i64 kd, .int .u32 (n : Nat), .string ⟨#[]⟩, .int .i64 0, .string ⟨#[]⟩, .int .i64 it, .int .u8 (fl : Nat), .int .u32 0, .int .u32 0, .slice none 0 0] 49)) B ob ov L := ⟨h.1.past _, h.2.1.past _, h.2.2⟩
  cases ok with
  | false =>
    have HB := Lib.hid (And.intro hb0 hO)
    obtain ⟨L2, hL2⟩ : ∃ L2, (L ++ if false = true then [(⟨kd, n, it, fl⟩ : Rp)] else []) = L2 := ⟨_, rfl⟩
    rw [hL2]
    have HL : Hid (L2 = L) := Lib.hid (by rw [← hL2]; simp)
    clear hb0 hO h hL2
    unfold rpC
    go_enter Tryz.func23, Tryz.ntmps23
    go_wp2_with fail
    go_end0
    exact ⟨rfl, ov, by rw [HL.out]; exact HB.out.2, fun m hm => HB.out.1.mono (Nat.le_trans hm hBs), Kp1.of_below HB.out.1 _ _, HB.out.1.size⟩
  | true =>
    obtain ⟨v2, g2, o2, n2, c2, w2, rfl, hrun, hfz, hsm, hout, hb2, hkp⟩ := push_out hO ⟨kd, n, it, fl⟩ (by omega)
    obtain ⟨u2, hu2⟩ := Option.isSome_iff_exists.1 hsm
    unfold rpC at hrun
    have c0 : w.cell? ⟨ob, 0, none⟩ = some ov := h.1.cell 0
    have c0b : (w.alloc (.cells #[.int .i64 kd, .int .u32 (n : Nat), .string ⟨#[]⟩, .int .i64 0, .string ⟨#[]⟩, .int .i64 it, .int .u8 (fl : Nat), .int .u32 0, .int .u32 0, .slice none 0 0] 49)).cell? ⟨ob, 0, none⟩ = some ov := hO.1.cell 0
    have hlt := h.1.lt
    rw [World.size_alloc] at hrun
    have HR := Lib.hid hrun
    have HX := Lib.hid (And.intro hb0 (And.intro hout (And.intro hb2 hkp)))
    obtain ⟨L2, hL2⟩ : ∃ L2, (L ++ if true = true then [(⟨kd, n, it, fl⟩ : Rp)] else []) = L2 := ⟨_, rfl⟩
    rw [hL2]
    have HL : Hid (L2 = L ++ [⟨kd, n, it, fl⟩]) := Lib.hid (by rw [← hL2]; simp)
    clear hb0 hO h hL2 hrun hout hb2 hkp hsm
    unfold rpC
    go_enter Tryz.func23, Tryz.ntmps23
    go_wp2_with (at_builtin; refine wpList_append_run _ rfl (.tmp 6) (.tmp 8) _ _ rfl _ _ rfl rfl _ _ HR.out ?_)
    go_end0
    exact ⟨rfl, _, by rw [HL.out]; exact HX.out.2.1, fun m hm => (HX.out.1.mono (Nat.le_trans hm hBs)).trans (HX.out.2.2.1 m hm), (Kp1.of_below HX.out.1 _ _).trans HX.out.2.2.2 HX.out.1.size, Nat.le_trans HX.out.1.size (HX.out.2.2.1 0 (Nat.zero_le _)).size⟩

theorem evP_1 (sl : List Int) (sg : Bool) (so : List Rp) (uid fl : Nat) : evP ((sl, sg), so) ⟨1, uid, fl⟩ = ((if appB sl uid then sl ++ [(uid : Int)] else sl, sg || appB sl uid), so) := by simp [evP]
theorem evP_2 (sl : List Int) (sg : Bool) (so : List Rp) (uid fl : Nat) : evP ((sl, sg), so) ⟨2, uid, fl⟩ = ((cutU sl uid, false), (so ++ if sg then [cntR sl] else []) ++ if decide (0 < posU sl uid) then [expR (posU sl uid)] else []) := by simp [evP, tellV, evV]
theorem evP_3 (sl : List Int) (sg : Bool) (so : List Rp) (uid fl : Nat) : evP ((sl, sg), so) ⟨3, uid, fl⟩ = ((sl, false), (so ++ if sg then [cntR sl] else []) ++ if decide (0 < posU sl uid) then [fetR (posU sl uid) fl] else []) := by simp [evP, tellV, evV]
theorem evP_n (sl : List Int) (sg : Bool) (so : List Rp) (kd : Int) (uid fl : Nat) (h1 : ¬ kd = 1) (h2 : ¬ kd = 2) (h3 : ¬ kd = 3) : evP ((sl, sg), so) ⟨kd, uid, fl⟩ = ((sl, false), so ++ if sg then [cntR sl] else []) := by simp [evP, tellV, evV, h1, h2, h3]
/-- The state of Apply: the view, the answer, and the variables of the call. -/
def ApI (w W : World) (B vb ib : Nat) (v0 v : Value) (l : List Int) (g : Bool) (ov : Value) (L : List Rp) : Prop :=
  VwM W B vb ib v l g ∧ OutM W w.heap.size (w.heap.size + 1) ov L ∧ Blk W w.heap.size 25 #[.pointer (some ⟨vb, 0, none⟩)] ∧ Blk W (w.heap.size + 2) 59 #[.func (.func 23) #[] #[.pointer (some ⟨w.heap.size + 1, 0, none⟩)]] ∧
    Blk W (w.heap.size + 3) 63 #[.func (.func 26) #[.pointer (some ⟨vb, 0, none⟩)] #[], .func (.func 27) #[.pointer (some ⟨vb, 0, none⟩)] #[], .func (.func 28) #[.pointer (some ⟨vb, 0, none⟩)] #[], .func (.func 29) #[.pointer (some ⟨vb, 0, none⟩)] #[]] ∧
    FrV w W B vb ib v0 v ∧ (vb < w.heap.size ∧ ib < w.heap.size ∧ B ≤ w.heap.size ∧ w.heap.size + 4 ≤ W.heap.size) ∧ (∀ k, w.heap.size ≤ k → k < w.heap.size + 4 → v.ownBlock ≠ some k ∧ ov.ownBlock ≠ some k) ∧ (∀ j, v.ownBlock = some j → ov.ownBlock ≠ some j)
theorem ApI.view {w W W' : World} {B vb ib : Nat} {v0 v v' : Value} {l l' : List Int} {g g' : Bool} {ov : Value} {L : List Rp} (h : ApI w W B vb ib v0 v l g ov L) (hv : VwM W' B vb ib v' l' g') (hf : FrV W W' B vb ib v v') : ApI w W' B vb ib v0 v' l' g' ov L := by
  obtain ⟨h1, h2, h3, h4, h5, h6, h7, h8, h9⟩ := h
  have kp : ∀ k, w.heap.size ≤ k → k < W.heap.size → v.ownBlock ≠ some k → W'.heap[k]? = W.heap[k]? ∧ v'.ownBlock ≠ some k := fun k hk1 hk2 ho => hf.2.1 k hk2 (by omega) (by omega) ho
  have kq : ∀ k, w.heap.size ≤ k → k < w.heap.size + 4 → W'.heap[k]? = W.heap[k]? ∧ v'.ownBlock ≠ some k := fun k hk1 hk2 => kp k hk1 (by omega) (h8 k hk1 hk2).1
  refine ⟨hv, h2.kept hf.2.2 (kq _ (by omega) (by omega)).1 (fun k hk ho => ?_), (kq _ (by omega) (by omega)).1.trans h3, (kq _ (by omega) (by omega)).1.trans h4, (kq _ (by omega) (by omega)).1.trans h5, h6.trans hf, ⟨h7.1, h7.2.1, h7.2.2.1, by have := hf.2.2; omega⟩, fun k hk1 hk2 => ⟨(kq k hk1 hk2).2, (h8 k hk1 hk2).2⟩, fun j hj ho => ?_⟩
  · exact (kp k (h2.own_lt k ho).2 hk (fun e => h9 k e ho)).1
  · exact (kp j (h2.own_lt j ho).2 (h2.own_lt j ho).1 (fun e => h9 j e ho)).2 hj
theorem ApI.out {w W W' : World} {B vb ib : Nat} {v0 v : Value} {l : List Int} {g : Bool} {ov ov' : Value} {L L' : List Rp} (h : ApI w W B vb ib v0 v l g ov L) (ho : OutM W' w.heap.size (w.heap.size + 1) ov' L') (hb : ∀ n, n ≤ w.heap.size → Below n W W') (hk : Kp1 W W' (w.heap.size + 1) ov ov') (hs : W.heap.size ≤ W'.heap.size) : ApI w W' B vb ib v0 v l g ov' L' := by
  obtain ⟨h1, h2, h3, h4, h5, h6, h7, h8, h9⟩ := h
  have old : ∀ k, k < w.heap.size → W'.heap[k]? = W.heap[k]? := fun k hk' => (hb w.heap.size (Nat.le_refl _)).block k hk'
  have kp : ∀ k, k < W.heap.size → k ≠ w.heap.size + 1 → ov.ownBlock ≠ some k → W'.heap[k]? = W.heap[k]? ∧ ov'.ownBlock ≠ some k := hk
  have hov : ∀ j, v.ownBlock = some j → W'.heap[j]? = W.heap[j]? ∧ ov'.ownBlock ≠ some j := fun j hj => kp j (h1.2.1.own_lt j hj).1 (fun e => (h8 (w.heap.size + 1) (by omega) (by omega)).1 (by rw [hj, e])) (h9 j hj)
  refine ⟨⟨(old vb h7.1).trans h1.1, ⟨(old ib h7.2.1).trans h1.2.1.1, h1.2.1.2.1.kept hs (fun k _ hk1 => (hov k hk1).1), h1.2.1.2.2⟩, h1.2.2⟩, ho, ?_, ?_, ?_, ⟨fun n hn => (h6.1 n hn).trans (hb n (by omega)), fun k hk1 hk2 hk3 hk4 => ?_, Nat.le_trans h6.2.2 hs⟩, ⟨h7.1, h7.2.1, h7.2.2.1, by omega⟩, fun k hk1 hk2 => ⟨(h8 k hk1 hk2).1, ?_⟩, fun j hj => (hov j hj).2⟩
  · exact (kp w.heap.size (by omega) (by omega) (h8 _ (by omega) (by omega)).2).1.trans h3
  · exact (kp (w.heap.size + 2) (by omega) (by omega) (h8 _ (by omega) (by omega)).2).1.trans h4
  · exact (kp (w.heap.size + 3) (by omega) (by omega) (h8 _ (by omega) (by omega)).2).1.trans h5
  · obtain ⟨e, o⟩ := h6.2.1 k hk1 hk2 hk3 hk4
    exact ⟨(old k hk1).trans e, o⟩
  · by_cases e : k = w.heap.size + 1
    · rw [e]; exact ho.2.2.1
    · exact (kp k (by omega) e (h8 k hk1 hk2).2).2
theorem ApI.below {w W W' : World} {B vb ib : Nat} {v0 v : Value} {l : List Int} {g : Bool} {ov : Value} {L : List Rp} (h : ApI w W B vb ib v0 v l g ov L) (hb : Below W.heap.size W W') : ApI w W' B vb ib v0 v l g ov L :=
  h.view (h.1.below hb (Nat.le_refl _)) (FrV.of_below hb h.1.base _ _ _)
theorem VwM.vwr {W : World} {B vb ib : Nat} {v : Value} {l : List Int} {g : Bool} (h : VwM W B vb ib v l g) : VwR W W.heap.size (some ⟨vb, 0, none⟩) l := .inr ⟨vb, ib, rfl, h.1.lt, h.1.cell 0, h.2.1.read⟩

set_option maxRecDepth 100000 in
set_option maxHeartbeats 3200000 in
theorem exists_any (w W : World) (B vb ib : Nat) (v0 v : Value) (l : List Int) (g : Bool) (ov : Value) (L : List Rp) (h : ApI w W B vb ib v0 v l g ov L) (hl : l.length ≤ 100000) (hL : L.length ≤ 1000000) :
    Calls Tryz.prog 24 #[.pointer (some ⟨w.heap.size + 2, 0, none⟩), .pointer (some ⟨w.heap.size, 0, none⟩)] W fun e w' => e = .returned (.tuple #[]) ∧ ∃ ov', ApI w w' B vb ib v0 v l false ov' (L ++ if g then [cntR l] else []) ∧ ∀ k, w.heap.size + 4 ≤ k → k < W.heap.size → v.ownBlock ≠ some k → ov.ownBlock ≠ some k → w'.heap[k]? = W.heap[k]? ∧ ov'.ownBlock ≠ some k := by
  have eg : ∀ args w, (callFunc 23 args).run Tryz.prog w = .ok (.enter 23 args) w := fun _ _ => rfl
  have HLen := Lib.hid (fun W' (h : VwR W' W'.heap.size (some ⟨vb, 0, none⟩) l) => vlen_any (some ⟨vb, 0, none⟩) l W' h)
  have HCt := Lib.hid (fun W' => count_any 1 (l.length : Nat) W' (by omega) (by omega))
  have HAd := Lib.hid (fun W' (hO : OutM W' w.heap.size (w.heap.size + 1) ov L) => add_any w.heap.size (w.heap.size + 1) ov L (cntR l) g W' hO hL)
  have H0 := Lib.hid (show ApI w W.drew B vb ib v0 v l g ov L from h.below (Below.drew (Below.refl _ _)))
  unfold rpC cntR at HAd
  obtain ⟨Z, hZ⟩ : ∃ Z, (L ++ if g then [cntR l] else []) = Z := ⟨_, rfl⟩
  rw [hZ]
  have HZ := Lib.hid hZ
  have HW := Lib.hid (show vb < w.heap.size from h.2.2.2.2.2.2.1.1)
  clear h hZ hL
  obtain ⟨m, hm⟩ : ∃ m, l.length = m := ⟨_, rfl⟩
  have HM := Lib.hid hm
  rw [hm] at HLen HCt HAd hl
  clear hm
  go_enter Tryz.func24, Tryz.ntmps24
  go_upto_region 0 with fail
  refine region_anyC (fun W => Blk W (w.heap.size + 2) 59 #[.func (.func 23) #[] #[.pointer (some ⟨w.heap.size + 1, 0, none⟩)]] ∧ Blk W w.heap.size 25 #[.pointer (some ⟨vb, 0, none⟩)] ∧ Blk W vb 53 #[.pointer (some ⟨ib, 0, none⟩), .bool g]) (by kernel_rfl) ?_
  refine anyC_take (i := 0) (v := ?_) rfl (by kernel_rfl) (by kernel_rfl) (by kernel_rfl) (fun _ _ _ h => h) (And.intro H0.out.2.2.2.1 (And.intro H0.out.2.2.1 H0.out.1.1)) (Or.inl ⟨by rfl, ?_⟩) ?_
  rotate_left
  · intro W' hW
    have x : W'.cell? ⟨w.heap.size + 2, 0, none⟩ = some (.func (.func 23) #[] #[.pointer (some ⟨w.heap.size + 1, 0, none⟩)]) := hW.1.cell 0
    go_simp
    try with_reducible rfl
  try simp only [List.getElem_toArray, List.getElem_cons_zero, List.getElem_cons_succ, Act.put, List.setIfInBounds_toArray, List.set_cons_zero, List.set_cons_succ]
  refine anyC_take (i := 1) (v := ?_) rfl (by kernel_rfl) (by kernel_rfl) (by kernel_rfl) (fun _ _ _ h => h) (And.intro H0.out.2.2.2.1 (And.intro H0.out.2.2.1 H0.out.1.1)) (Or.inl ⟨by rfl, ?_⟩) ?_
  rotate_left
  · intro W' hW
    have x : W'.cell? ⟨w.heap.size, 0, none⟩ = some (.pointer (some ⟨vb, 0, none⟩)) := hW.2.1.cell 0
    go_simp
    try with_reducible rfl
  try simp only [List.getElem_toArray, List.getElem_cons_zero, List.getElem_cons_succ, Act.put, List.setIfInBounds_toArray, List.set_cons_zero, List.set_cons_succ]
  refine anyC_take (i := 4) (v := ?_) rfl (by kernel_rfl) (by kernel_rfl) (by kernel_rfl) (fun _ _ _ h => h) (And.intro H0.out.2.2.2.1 (And.intro H0.out.2.2.1 H0.out.1.1)) (Or.inl ⟨by rfl, ?_⟩) ?_
  rotate_left
  · intro W' hW
    have x : W'.cell? ⟨w.heap.size, 0, none⟩ = some (.pointer (some ⟨vb, 0, none⟩)) := hW.2.1.cell 0
    go_simp
    try with_reducible rfl
  try simp only [List.getElem_toArray, List.getElem_cons_zero, List.getElem_cons_succ, Act.put, List.setIfInBounds_toArray, List.set_cons_zero, List.set_cons_succ]
  refine anyC_take (i := 5) (v := ?_) rfl (by kernel_rfl) (by kernel_rfl) (by kernel_rfl) (fun _ _ _ h => h) (And.intro H0.out.2.2.2.1 (And.intro H0.out.2.2.1 H0.out.1.1)) (Or.inl ⟨by rfl, ?_⟩) ?_
  rotate_left
  · intro W' hW
    go_simp
    try with_reducible rfl
  try simp only [List.getElem_toArray, List.getElem_cons_zero, List.getElem_cons_succ, Act.put, List.setIfInBounds_toArray, List.set_cons_zero, List.set_cons_succ]
  refine anyC_take (i := 6) (v := ?_) rfl (by kernel_rfl) (by kernel_rfl) (by kernel_rfl) (fun _ _ _ h => h) (And.intro H0.out.2.2.2.1 (And.intro H0.out.2.2.1 H0.out.1.1)) (Or.inl ⟨by rfl, ?_⟩) ?_
  rotate_left
  · intro W' hW
    go_simp
    try with_reducible rfl
  try simp only [List.getElem_toArray, List.getElem_cons_zero, List.getElem_cons_succ, Act.put, List.setIfInBounds_toArray, List.set_cons_zero, List.set_cons_succ]
  refine anyC_take (i := 7) (v := ?_) rfl (by kernel_rfl) (by kernel_rfl) (by kernel_rfl) (fun _ _ _ h => h) (And.intro H0.out.2.2.2.1 (And.intro H0.out.2.2.1 H0.out.1.1)) (Or.inl ⟨by rfl, ?_⟩) ?_
  rotate_left
  · intro W' hW
    have x : W'.cell? ⟨vb, 1, none⟩ = some (.bool g) := hW.2.2.cell 1
    go_simp
    try with_reducible rfl
  try simp only [List.getElem_toArray, List.getElem_cons_zero, List.getElem_cons_succ, Act.put, List.setIfInBounds_toArray, List.set_cons_zero, List.set_cons_succ]
  refine anyC_one (i := 2) (by kernel_rfl) (fun K hK => ⟨_, rfl, by kernel_rfl, ?_⟩)
  go_simp
  refine (HLen.out _ H0.out.1.vwr).mono ?_
  rintro e w1 ⟨rfl, rfl⟩
  refine hK _ _ (And.intro H0.out.2.2.2.1 (And.intro H0.out.2.2.1 H0.out.1.1)) ?_
  clear hK K
  try simp only [List.getElem_toArray, List.getElem_cons_zero, List.getElem_cons_succ, Act.put, List.setIfInBounds_toArray, List.set_cons_zero, List.set_cons_succ]
  refine anyC_one (i := 3) (by kernel_rfl) (fun K hK => ⟨_, rfl, by kernel_rfl, ?_⟩)
  go_simp
  refine (HCt.out _).mono ?_
  rintro e w2 ⟨rfl, hb2⟩
  have H2 := Lib.hid (H0.out.below hb2)
  have HS2 := Lib.hid (show ∀ k, k < W.heap.size → w2.heap[k]? = W.heap[k]? ∧ W.heap.size ≤ w2.heap.size from fun k hk => ⟨hb2.block k hk, hb2.size⟩)
  clear hb2
  refine hK _ _ (And.intro H2.out.2.2.2.1 (And.intro H2.out.2.2.1 H2.out.1.1)) ?_
  clear hK K
  try simp only [List.getElem_toArray, List.getElem_cons_zero, List.getElem_cons_succ, Act.put, List.setIfInBounds_toArray, List.set_cons_zero, List.set_cons_succ]
  refine anyC_one (i := 8) (by kernel_rfl) (fun K hK => ⟨_, rfl, by kernel_rfl, ?_⟩)
  go_simp
  refine (HAd.out _ H2.out.2.1).mono ?_
  rintro e w3 ⟨rfl, ov3, ho3, hb3, hk3, hs3⟩
  have H3 := Lib.hid (H2.out.out ho3 hb3 hk3 hs3)
  have HS3 := Lib.hid (show ∀ k, w.heap.size + 4 ≤ k → k < W.heap.size → v.ownBlock ≠ some k → ov.ownBlock ≠ some k → w3.heap[k]? = W.heap[k]? ∧ ov3.ownBlock ≠ some k from fun k h1 h2 _ h4 => by have h5 := HS2.out k h2; exact ⟨(hk3 k (by omega) (by omega) h4).1.trans h5.1, (hk3 k (by omega) (by omega) h4).2⟩)
  clear ho3 hb3 hk3 hs3
  refine hK _ _ (And.intro H3.out.2.2.2.1 (And.intro H3.out.2.2.1 H3.out.1.1)) ?_
  clear hK K
  try simp only [List.getElem_toArray, List.getElem_cons_zero, List.getElem_cons_succ, Act.put, List.setIfInBounds_toArray, List.set_cons_zero, List.set_cons_succ]
  refine anyC_done (by kernel_rfl) ?_ _
  have y0 : w3.cell? ⟨w.heap.size, 0, none⟩ = some (.pointer (some ⟨vb, 0, none⟩)) := H3.out.2.2.1.cell 0
  have y1 : w3.cell? ⟨vb, 1, none⟩ = some (.bool g) := H3.out.1.1.cell 1
  have yf : w3.frozen? ⟨vb, 1, none⟩ = false := H3.out.1.1.frz 1
  go_wp2_with fail
  go_end0
  refine ⟨rfl, ov3, ?_, fun k h1 h2 h3 h4 => ⟨(Below.heap_setCell w3 ⟨vb, 1, none⟩ _ k (by show k ≠ vb; have := HW.out; omega)).trans (HS3.out k h1 h2 h3 h4).1, (HS3.out k h1 h2 h3 h4).2⟩⟩
  have hq := H3.out.view (H3.out.1.grow false) ((FrV.refl w3 B vb ib v).grow H3.out.1.2.2.2.2 (.bool false))
  rw [← HZ.out]
  unfold cntR
  rw [HM.out]
  exact hq

/-- The slice ev reads as the events E; it lies in block eb. -/
def EvR (W : World) (ev : Value) (E : List Ev) (eb : Nat) : Prop := ∃ p eo cap, ev = .slice p E.length cap ∧ (0 < E.length → p = some ⟨eb, eo, none⟩) ∧ ∀ i (hi : i < E.length), W.cell? ⟨eb, eo + i * 3, none⟩ = some (.int .i64 E[i].kind) ∧ W.cell? ⟨eb, eo + i * 3 + 1, none⟩ = some (.int .u32 (E[i].uid : Nat)) ∧ W.cell? ⟨eb, eo + i * 3 + 2, none⟩ = some (.int .u8 (E[i].fl : Nat))
set_option maxRecDepth 100000 in
set_option maxHeartbeats 12800000 in
theorem apply_any (B vb ib : Nat) (v : Value) (l : List Int) (g : Bool) (E : List Ev) (ev : Value) (eb : Nat) (w : World) (h : VwM w B vb ib v l g) (hE : EvR w ev E eb) (heb : E.length = 0 ∨ (eb < w.heap.size ∧ eb ≠ vb ∧ eb ≠ ib ∧ v.ownBlock ≠ some eb)) (ha : asc l) (hl : l.length + E.length ≤ 90000) (hu : ∀ e ∈ E, e.uid < 4294967296) :
    Calls Tryz.prog 11 #[.pointer (some ⟨vb, 0, none⟩), ev] w fun e w' => ∃ rv v', e = .returned rv ∧ Buf w' w.heap.size 10 rv (applyV (l, g) E).2.length ((applyV (l, g) E).2.flatMap rpC) ∧ VwM w' B vb ib v' (applyV (l, g) E).1.1 false ∧ FrV w w' B vb ib v v' ∧ ∀ j, v'.ownBlock = some j → rv.ownBlock ≠ some j := by
  obtain ⟨pe, eo, cap, rfl, hpe, hce⟩ := hE
  have eg1 : ∀ args w, (callFunc 23 args).run Tryz.prog w = .ok (.enter 23 args) w := fun _ _ => rfl
  have eg2 : ∀ args w, (callFunc 24 args).run Tryz.prog w = .ok (.enter 24 args) w := fun _ _ => rfl
  have egA : ∀ args w, (callFunc 27 args).run Tryz.prog w = .ok (.enter 27 args) w := fun _ _ => rfl
  have egG : ∀ args w, (callFunc 28 args).run Tryz.prog w = .ok (.enter 28 args) w := fun _ _ => rfl
  have egC : ∀ args w, (callFunc 29 args).run Tryz.prog w = .ok (.enter 29 args) w := fun _ _ => rfl
  obtain ⟨m, hm⟩ : ∃ m, E.length = m := ⟨_, rfl⟩
  rw [hm] at hpe hl heb ⊢
  have hmI : (m : Int) ≤ 90000 := by omega
  have hb0 : Below w.heap.size w ((((w.alloc (.cells #[.pointer (some ⟨vb, 0, none⟩)] 25)).alloc (.cells #[.slice none 0 0] 29)).alloc (.cells #[.func (.func 23) #[] #[.pointer (some ⟨w.heap.size + 1, 0, none⟩)]] 59)).alloc (.cells #[.func (.func 26) #[.pointer (some ⟨vb, 0, none⟩)] #[], .func (.func 27) #[.pointer (some ⟨vb, 0, none⟩)] #[], .func (.func 28) #[.pointer (some ⟨vb, 0, none⟩)] #[], .func (.func 29) #[.pointer (some ⟨vb, 0, none⟩)] #[]] 63)) := (((((Below.refl _ w).alloc (Nat.le_refl _) _).alloc (by rw [World.size_alloc]; omega) _).alloc (by rw [World.size_alloc, World.size_alloc]; omega) _).alloc (by rw [World.size_alloc, World.size_alloc, World.size_alloc]; omega) _)
  have hApI : ApI w ((((w.alloc (.cells #[.pointer (some ⟨vb, 0, none⟩)] 25)).alloc (.cells #[.slice none 0 0] 29)).alloc (.cells #[.func (.func 23) #[] #[.pointer (some ⟨w.heap.size + 1, 0, none⟩)]] 59)).alloc (.cells #[.func (.func 26) #[.pointer (some ⟨vb, 0, none⟩)] #[], .func (.func 27) #[.pointer (some ⟨vb, 0, none⟩)] #[], .func (.func 28) #[.pointer (some ⟨vb, 0, none⟩)] #[], .func (.func 29) #[.pointer (some ⟨vb, 0, none⟩)] #[]] 63)) B vb ib v v l g (.slice none 0 0) [] := by
    have k1 := (((Blk.made w 25 #[.pointer (some ⟨vb, 0, none⟩)]).past (.cells #[.slice none 0 0] 29)).past (.cells #[.func (.func 23) #[] #[.pointer (some ⟨w.heap.size + 1, 0, none⟩)]] 59)).past (.cells #[.func (.func 26) #[.pointer (some ⟨vb, 0, none⟩)] #[], .func (.func 27) #[.pointer (some ⟨vb, 0, none⟩)] #[], .func (.func 28) #[.pointer (some ⟨vb, 0, none⟩)] #[], .func (.func 29) #[.pointer (some ⟨vb, 0, none⟩)] #[]] 63)
    have k2 := ((Blk.made (w.alloc (.cells #[.pointer (some ⟨vb, 0, none⟩)] 25)) 29 #[.slice none 0 0]).past (.cells #[.func (.func 23) #[] #[.pointer (some ⟨w.heap.size + 1, 0, none⟩)]] 59)).past (.cells #[.func (.func 26) #[.pointer (some ⟨vb, 0, none⟩)] #[], .func (.func 27) #[.pointer (some ⟨vb, 0, none⟩)] #[], .func (.func 28) #[.pointer (some ⟨vb, 0, none⟩)] #[], .func (.func 29) #[.pointer (some ⟨vb, 0, none⟩)] #[]] 63)
    have k3 := (Blk.made ((w.alloc (.cells #[.pointer (some ⟨vb, 0, none⟩)] 25)).alloc (.cells #[.slice none 0 0] 29)) 59 #[.func (.func 23) #[] #[.pointer (some ⟨w.heap.size + 1, 0, none⟩)]]).past (.cells #[.func (.func 26) #[.pointer (some ⟨vb, 0, none⟩)] #[], .func (.func 27) #[.pointer (some ⟨vb, 0, none⟩)] #[], .func (.func 28) #[.pointer (some ⟨vb, 0, none⟩)] #[], .func (.func 29) #[.pointer (some ⟨vb, 0, none⟩)] #[]] 63)
    have k4 := Blk.made (((w.alloc (.cells #[.pointer (some ⟨vb, 0, none⟩)] 25)).alloc (.cells #[.slice none 0 0] 29)).alloc (.cells #[.func (.func 23) #[] #[.pointer (some ⟨w.heap.size + 1, 0, none⟩)]] 59)) 63 #[.func (.func 26) #[.pointer (some ⟨vb, 0, none⟩)] #[], .func (.func 27) #[.pointer (some ⟨vb, 0, none⟩)] #[], .func (.func 28) #[.pointer (some ⟨vb, 0, none⟩)] #[], .func (.func 29) #[.pointer (some ⟨vb, 0, none⟩)] #[]]
    rw [World.size_alloc] at k2
    rw [World.size_alloc, World.size_alloc] at k3
    rw [World.size_alloc, World.size_alloc, World.size_alloc] at k4
    refine ⟨h.below hb0 (Nat.le_refl _), ⟨k2, Buf.nil _ _ _, by simp [Value.ownBlock], by omega⟩, k1, k3, k4, FrV.of_below hb0 h.base _ _ _, ⟨h.1.lt, h.2.1.1.lt, h.base, by rw [World.size_alloc, World.size_alloc, World.size_alloc, World.size_alloc]; omega⟩, fun k hk1 hk2 => ⟨fun e => by have := (h.2.1.own_lt k e).1; omega, by simp [Value.ownBlock]⟩, fun j hj => by simp [Value.ownBlock]⟩
  have H0 := Lib.hid hApI
  have HE := Lib.hid (And.intro hm (And.intro hce (And.intro hpe (And.intro heb (And.intro ha (And.intro hl (And.intro hu h)))))))
  have HA : Hid ((applyV (l, g) E).1.1 = (runV ((l, g), []) E).1.1 ∧ (applyV (l, g) E).2 = (runV ((l, g), []) E).2 ++ if (runV ((l, g), []) E).1.2 then [cntR (runV ((l, g), []) E).1.1] else []) := Lib.hid ⟨rfl, rfl⟩
  have HFc := Lib.hid (fun k (hk : k ≤ m) => runV_facts (s := ((l, g), [])) ha (E.take k))
  obtain ⟨rl, hrl⟩ : ∃ rl, (applyV (l, g) E).2 = rl := ⟨_, rfl⟩
  obtain ⟨fl, hfl⟩ : ∃ fl, (applyV (l, g) E).1.1 = fl := ⟨_, rfl⟩
  rw [hrl, hfl] at HA ⊢
  clear hrl hfl hb0 hApI hm hce hpe heb ha hl hu h
  go_enter Tryz.func11, Tryz.ntmps11
  go_wp2_with fail
  go_loopw [26] (fun i wr => ∃ (k : Nat) (v1 ov : Value) (s : VSt), k ≤ m ∧ i = .int .i64 k ∧ runV ((l, g), []) (E.take k) = s ∧ ApI w wr B vb ib v v1 s.1.1 s.1.2 ov s.2) (fun i _ => m - (intOf i).toNat)
  case atStart => exact ⟨0, v, _, ((l, g), []), Nat.zero_le _, rfl, rfl, H0.out⟩
  case round =>
    obtain ⟨k, v1, ov, s, hk, rfl, hs, hI⟩ := hrel
    have hkI : (k : Int) ≤ m := by omega
    have hfc := HFc.out k hk
    rw [hs] at hfc
    have hsl : s.1.1.length ≤ 100000 := by have h3 : s.1.1.length ≤ l.length + (E.take k).length := hfc.2.1; have := HE.out.2.2.2.2.2.1; have h2 : (E.take k).length ≤ k := List.length_take_le _ _; omega
    have hol : s.2.length ≤ 200000 := by have h3 : s.2.length ≤ 0 + 2 * (E.take k).length := hfc.2.2; have := HE.out.2.2.2.2.2.1; have h2 : (E.take k).length ≤ k := List.length_take_le _ _; omega
    by_cases hlt : k < m
    · have hltI : (k : Int) < m := by omega
      have hkl : k < E.length := by have := HE.out.1; omega
      have hpe := HE.out.2.2.1 (by omega)
      subst hpe
      obtain ⟨he1, he2, he3, he4⟩ := HE.out.2.2.2.1.resolve_left (by omega)
      have hsm := (hI.2.2.2.2.2.1.2.1 eb he1 he2 he3 he4).1
      obtain ⟨q0, q1, q2⟩ := HE.out.2.1 k hkl
      have c0 : wr.cell? ⟨eb, eo + k * 3, none⟩ = some (.int .i64 E[k].kind) := (World.cell?_of_block (a := ⟨eb, eo + k * 3, none⟩) hsm).trans q0
      have c1 : wr.cell? ⟨eb, eo + k * 3 + 1, none⟩ = some (.int .u32 (E[k].uid : Nat)) := (World.cell?_of_block (a := ⟨eb, eo + k * 3 + 1, none⟩) hsm).trans q1
      have c2 : wr.cell? ⟨eb, eo + k * 3 + 2, none⟩ = some (.int .u8 (E[k].fl : Nat)) := (World.cell?_of_block (a := ⟨eb, eo + k * 3 + 2, none⟩) hsm).trans q2
      have huk := HE.out.2.2.2.2.2.2.1 E[k] (List.getElem_mem hkl)
      have hnx := runV_next (s := ((l, g), [])) hkl
      rw [hs] at hnx
      rcases hek : E[k] with ⟨kd, uid, fle⟩
      rw [hek] at c0 c1 c2 huk hnx
      have HX := Lib.hid (And.intro hnx (And.intro hfc (And.intro huk (And.intro hsl hol))))
      have HI := Lib.hid hI
      clear hnx hfc huk hsl hol hI hek q0 q1 q2 hsm he1 he2 he3 he4 hs
      obtain ⟨⟨sl, sg⟩, so⟩ := s
      by_cases e1 : kd = 1
      · subst e1
        have hbx : Below wr.heap.size wr (wr.alloc (.cells #[.int .i64 1, .int .u32 (uid : Nat), .int .u8 (fle : Nat)] 46)) := (Below.refl _ _).alloc (Nat.le_refl _) _
        have HI1 := Lib.hid (HI.out.below hbx)
        have HX1 := Lib.hid (Blk.made wr 46 #[.int .i64 1, .int .u32 (uid : Nat), .int .u8 (fle : Nat)])
        have HN := Lib.hid (show vb < w.heap.size ∧ ib < w.heap.size ∧ v1.ownBlock ≠ some wr.heap.size ∧ ov.ownBlock ≠ some wr.heap.size ∧ w.heap.size + 4 ≤ wr.heap.size from ⟨HI.out.2.2.2.2.2.2.1.1, HI.out.2.2.2.2.2.2.1.2.1, fun e => by have := (HI.out.1.2.1.own_lt _ e).1; omega, fun e => by have := (HI.out.2.1.own_lt _ e).1; omega, HI.out.2.2.2.2.2.2.1.2.2.2⟩)
        clear hbx
        go_upto_region 13 with fail
        have HI1d := Lib.hid (show ApI w (wr.alloc (.cells #[.int .i64 1, .int .u32 (uid : Nat), .int .u8 (fle : Nat)] 46)).drew B vb ib v v1 sl sg ov so from HI1.out.below (Below.drew (Below.refl _ _)))
        have HX1d := Lib.hid (show Blk (wr.alloc (.cells #[.int .i64 1, .int .u32 (uid : Nat), .int .u8 (fle : Nat)] 46)).drew wr.heap.size 46 #[.int .i64 1, .int .u32 (uid : Nat), .int .u8 (fle : Nat)] from HX1.out)
        refine region_anyC (fun W' => Blk W' (w.heap.size + 2) 59 #[.func (.func 23) #[] #[.pointer (some ⟨w.heap.size + 1, 0, none⟩)]] ∧ Blk W' (w.heap.size + 3) 63 #[.func (.func 26) #[.pointer (some ⟨vb, 0, none⟩)] #[], .func (.func 27) #[.pointer (some ⟨vb, 0, none⟩)] #[], .func (.func 28) #[.pointer (some ⟨vb, 0, none⟩)] #[], .func (.func 29) #[.pointer (some ⟨vb, 0, none⟩)] #[]] ∧ Blk W' wr.heap.size 46 #[.int .i64 1, .int .u32 (uid : Nat), .int .u8 (fle : Nat)]) (by kernel_rfl) ?_
        refine anyC_take (i := 1) (v := ?_) rfl (by kernel_rfl) (by kernel_rfl) (by kernel_rfl) (fun _ _ _ h => h) (And.intro HI1d.out.2.2.2.1 (And.intro HI1d.out.2.2.2.2.1 HX1d.out)) (Or.inl ⟨by rfl, ?_⟩) ?_
        rotate_left
        · intro W' hW
          go_simp
          try with_reducible rfl
        try simp only [List.getElem_toArray, List.getElem_cons_zero, List.getElem_cons_succ, Act.put, List.setIfInBounds_toArray, List.set_cons_zero, List.set_cons_succ]
        refine anyC_take (i := 0) (v := ?_) rfl (by kernel_rfl) (by kernel_rfl) (by kernel_rfl) (fun _ _ _ h => h) (And.intro HI1d.out.2.2.2.1 (And.intro HI1d.out.2.2.2.2.1 HX1d.out)) (Or.inl ⟨by rfl, ?_⟩) ?_
        rotate_left
        · intro W' hW
          have x : W'.cell? ⟨w.heap.size + 2, 0, none⟩ = some (.func (.func 23) #[] #[.pointer (some ⟨w.heap.size + 1, 0, none⟩)]) := hW.1.cell 0
          go_simp
          try with_reducible rfl
        try simp only [List.getElem_toArray, List.getElem_cons_zero, List.getElem_cons_succ, Act.put, List.setIfInBounds_toArray, List.set_cons_zero, List.set_cons_succ]
        refine anyC_take (i := 2) (v := ?_) rfl (by kernel_rfl) (by kernel_rfl) (by kernel_rfl) (fun _ _ _ h => h) (And.intro HI1d.out.2.2.2.1 (And.intro HI1d.out.2.2.2.2.1 HX1d.out)) (Or.inl ⟨by rfl, ?_⟩) ?_
        rotate_left
        · intro W' hW
          have x : W'.cell? ⟨wr.heap.size, 0, none⟩ = some (.int .i64 1) := hW.2.2.cell 0
          go_simp
          try with_reducible rfl
        try simp only [List.getElem_toArray, List.getElem_cons_zero, List.getElem_cons_succ, Act.put, List.setIfInBounds_toArray, List.set_cons_zero, List.set_cons_succ]
        refine anyC_take (i := 3) (v := ?_) rfl (by kernel_rfl) (by kernel_rfl) (by kernel_rfl) (fun _ _ _ h => h) (And.intro HI1d.out.2.2.2.1 (And.intro HI1d.out.2.2.2.2.1 HX1d.out)) (Or.inl ⟨by rfl, ?_⟩) ?_
        rotate_left
        · intro W' hW
          go_simp
          try with_reducible rfl
        try simp only [List.getElem_toArray, List.getElem_cons_zero, List.getElem_cons_succ, Act.put, List.setIfInBounds_toArray, List.set_cons_zero, List.set_cons_succ]
        refine anyC_take (i := 4) (v := ?_) rfl (by kernel_rfl) (by kernel_rfl) (by kernel_rfl) (fun _ _ _ h => h) (And.intro HI1d.out.2.2.2.1 (And.intro HI1d.out.2.2.2.2.1 HX1d.out)) (Or.inl ⟨by rfl, ?_⟩) ?_
        rotate_left
        · intro W' hW
          have x : W'.cell? ⟨w.heap.size + 3, 1, none⟩ = some (.func (.func 27) #[.pointer (some ⟨vb, 0, none⟩)] #[]) := hW.2.1.cell 1
          go_simp
          try with_reducible rfl
        try simp only [List.getElem_toArray, List.getElem_cons_zero, List.getElem_cons_succ, Act.put, List.setIfInBounds_toArray, List.set_cons_zero, List.set_cons_succ]
        refine anyC_take (i := 5) (v := ?_) rfl (by kernel_rfl) (by kernel_rfl) (by kernel_rfl) (fun _ _ _ h => h) (And.intro HI1d.out.2.2.2.1 (And.intro HI1d.out.2.2.2.2.1 HX1d.out)) (Or.inl ⟨by rfl, ?_⟩) ?_
        rotate_left
        · intro W' hW
          have x0 : W'.cell? ⟨wr.heap.size, 0, none⟩ = some (.int .i64 1) := hW.2.2.cell 0
          have x1 : W'.cell? ⟨wr.heap.size, 1, none⟩ = some (.int .u32 (uid : Nat)) := hW.2.2.cell 1
          have x2 : W'.cell? ⟨wr.heap.size, 2, none⟩ = some (.int .u8 (fle : Nat)) := hW.2.2.cell 2
          go_simp
          try with_reducible rfl
        try simp only [List.getElem_toArray, List.getElem_cons_zero, List.getElem_cons_succ, Act.put, List.setIfInBounds_toArray, List.set_cons_zero, List.set_cons_succ]
        refine anyC_one (i := 6) (by kernel_rfl) (fun K hK => ⟨_, rfl, by kernel_rfl, ?_⟩)
        go_simp
        refine (arrived_any B vb ib v1 sl sg 1 uid (fle : Nat) _ HI1d.out.1 HX.out.2.1.1 (by have h := HX.out.2.2.2.1; exact h) HX.out.2.2.1).mono ?_
        rintro e w5 ⟨rfl, v2, hv5, hf5⟩
        have HI5 := Lib.hid (HI1d.out.view hv5 hf5)
        have HX5 : Hid (Blk w5 wr.heap.size 46 #[.int .i64 1, .int .u32 (uid : Nat), .int .u8 (fle : Nat)]) := Lib.hid ((hf5.2.1 wr.heap.size HX1d.out.lt (by have := HN.out; omega) (by have := HN.out; omega) HN.out.2.2.1).1.trans HX1d.out)
        clear hv5 hf5
        refine hK _ _ (And.intro HI5.out.2.2.2.1 (And.intro HI5.out.2.2.2.2.1 HX5.out)) ?_
        clear hK K
        try simp only [List.getElem_toArray, List.getElem_cons_zero, List.getElem_cons_succ, Act.put, List.setIfInBounds_toArray, List.set_cons_zero, List.set_cons_succ]
        refine anyC_take (i := 7) (v := ?_) rfl (by kernel_rfl) (by kernel_rfl) (by kernel_rfl) (fun _ _ _ h => h) (And.intro HI5.out.2.2.2.1 (And.intro HI5.out.2.2.2.2.1 HX5.out)) (Or.inl ⟨by rfl, ?_⟩) ?_
        rotate_left
        · intro W' hW
          go_simp
          try with_reducible rfl
        try simp only [List.getElem_toArray, List.getElem_cons_zero, List.getElem_cons_succ, Act.put, List.setIfInBounds_toArray, List.set_cons_zero, List.set_cons_succ]
        refine anyC_take (i := 8) (v := ?_) rfl (by kernel_rfl) (by kernel_rfl) (by kernel_rfl) (fun _ _ _ h => h) (And.intro HI5.out.2.2.2.1 (And.intro HI5.out.2.2.2.2.1 HX5.out)) (Or.inl ⟨by rfl, ?_⟩) ?_
        rotate_left
        · intro W' hW
          go_simp
          try with_reducible rfl
        try simp only [List.getElem_toArray, List.getElem_cons_zero, List.getElem_cons_succ, Act.put, List.setIfInBounds_toArray, List.set_cons_zero, List.set_cons_succ]
        refine anyC_one (i := 9) (by kernel_rfl) (fun K hK => ⟨_, rfl, by kernel_rfl, ?_⟩)
        go_simp
        refine (add_any w.heap.size (w.heap.size + 1) _ _ ⟨0, 0, 0, 0⟩ false _ HI5.out.2.1 (by have h : so.length ≤ 200000 := HX.out.2.2.2.2; omega)).mono ?_
        rintro e w6 ⟨rfl, ov6, ho6, hb6, hk6, hs6⟩
        have HI6 := Lib.hid (HI5.out.out ho6 hb6 hk6 hs6)
        have HX6 : Hid (Blk w6 wr.heap.size 46 #[.int .i64 1, .int .u32 (uid : Nat), .int .u8 (fle : Nat)]) := Lib.hid ((hk6 wr.heap.size HX5.out.lt (by have := HN.out; omega) (by first | exact HN.out.2.2.2.1 | exact HN2.out)).1.trans HX5.out)
        clear ho6 hb6 hk6 hs6
        refine hK _ _ (And.intro HI6.out.2.2.2.1 (And.intro HI6.out.2.2.2.2.1 HX6.out)) ?_
        clear hK K
        try simp only [List.getElem_toArray, List.getElem_cons_zero, List.getElem_cons_succ, Act.put, List.setIfInBounds_toArray, List.set_cons_zero, List.set_cons_succ]
        refine anyC_done (by kernel_rfl) ?_ _
        go_wp2_with fail
        go_roundw
        case rel =>
          refine ⟨k + 1, v2, ov6, _, by omega, by go_num, HX.out.1, ?_⟩
          rw [evP_1]
          have h := HI6.out
          simp only [Bool.false_eq_true, if_false, List.append_nil] at h
          exact h
        case measure => simp [intOf]; omega
      by_cases e2 : kd = 2
      · subst e2
        have hbx : Below wr.heap.size wr (wr.alloc (.cells #[.int .i64 2, .int .u32 (uid : Nat), .int .u8 (fle : Nat)] 46)) := (Below.refl _ _).alloc (Nat.le_refl _) _
        have HI1 := Lib.hid (HI.out.below hbx)
        have HX1 := Lib.hid (Blk.made wr 46 #[.int .i64 2, .int .u32 (uid : Nat), .int .u8 (fle : Nat)])
        have HN := Lib.hid (show vb < w.heap.size ∧ ib < w.heap.size ∧ v1.ownBlock ≠ some wr.heap.size ∧ ov.ownBlock ≠ some wr.heap.size ∧ w.heap.size + 4 ≤ wr.heap.size from ⟨HI.out.2.2.2.2.2.2.1.1, HI.out.2.2.2.2.2.2.1.2.1, fun e => by have := (HI.out.1.2.1.own_lt _ e).1; omega, fun e => by have := (HI.out.2.1.own_lt _ e).1; omega, HI.out.2.2.2.2.2.2.1.2.2.2⟩)
        clear hbx
        have HEx := Lib.hid (exists_any w (wr.alloc (.cells #[.int .i64 2, .int .u32 (uid : Nat), .int .u8 (fle : Nat)] 46)) B vb ib v v1 sl sg ov so HI1.out (by have h := HX.out.2.2.2.1; exact h) (by have h : so.length ≤ 200000 := HX.out.2.2.2.2; omega))
        go_wp2_with fail
        refine HEx.out.mono ?_
        rintro e w2 ⟨rfl, ov2, hI2, ho2⟩
        have HI2 := Lib.hid hI2
        have HX2 : Hid (Blk w2 wr.heap.size 46 #[.int .i64 2, .int .u32 (uid : Nat), .int .u8 (fle : Nat)]) := Lib.hid ((ho2 wr.heap.size (by have := HN.out; omega) (by rw [World.size_alloc]; omega) HN.out.2.2.1 HN.out.2.2.2.1).1.trans HX1.out)
        have HN2 := Lib.hid (ho2 wr.heap.size (by have := HN.out; omega) (by rw [World.size_alloc]; omega) HN.out.2.2.1 HN.out.2.2.2.1).2
        have x0 : w2.cell? ⟨wr.heap.size, 0, none⟩ = some (.int .i64 2) := HX2.out.cell 0
        clear hI2 ho2
        go_upto_region 13 with fail
        have HI2d := Lib.hid (show ApI w w2.drew B vb ib v v1 sl false ov2 (so ++ if sg then [cntR sl] else []) from HI2.out.below (Below.drew (Below.refl _ _)))
        have HX2d := Lib.hid (show Blk w2.drew wr.heap.size 46 #[.int .i64 2, .int .u32 (uid : Nat), .int .u8 (fle : Nat)] from HX2.out)
        refine region_anyC (fun W' => Blk W' (w.heap.size + 2) 59 #[.func (.func 23) #[] #[.pointer (some ⟨w.heap.size + 1, 0, none⟩)]] ∧ Blk W' (w.heap.size + 3) 63 #[.func (.func 26) #[.pointer (some ⟨vb, 0, none⟩)] #[], .func (.func 27) #[.pointer (some ⟨vb, 0, none⟩)] #[], .func (.func 28) #[.pointer (some ⟨vb, 0, none⟩)] #[], .func (.func 29) #[.pointer (some ⟨vb, 0, none⟩)] #[]] ∧ Blk W' wr.heap.size 46 #[.int .i64 2, .int .u32 (uid : Nat), .int .u8 (fle : Nat)]) (by kernel_rfl) ?_
        refine anyC_take (i := 1) (v := ?_) rfl (by kernel_rfl) (by kernel_rfl) (by kernel_rfl) (fun _ _ _ h => h) (And.intro HI2d.out.2.2.2.1 (And.intro HI2d.out.2.2.2.2.1 HX2d.out)) (Or.inl ⟨by rfl, ?_⟩) ?_
        rotate_left
        · intro W' hW
          go_simp
          try with_reducible rfl
        try simp only [List.getElem_toArray, List.getElem_cons_zero, List.getElem_cons_succ, Act.put, List.setIfInBounds_toArray, List.set_cons_zero, List.set_cons_succ]
        refine anyC_take (i := 0) (v := ?_) rfl (by kernel_rfl) (by kernel_rfl) (by kernel_rfl) (fun _ _ _ h => h) (And.intro HI2d.out.2.2.2.1 (And.intro HI2d.out.2.2.2.2.1 HX2d.out)) (Or.inl ⟨by rfl, ?_⟩) ?_
        rotate_left
        · intro W' hW
          have x : W'.cell? ⟨w.heap.size + 2, 0, none⟩ = some (.func (.func 23) #[] #[.pointer (some ⟨w.heap.size + 1, 0, none⟩)]) := hW.1.cell 0
          go_simp
          try with_reducible rfl
        try simp only [List.getElem_toArray, List.getElem_cons_zero, List.getElem_cons_succ, Act.put, List.setIfInBounds_toArray, List.set_cons_zero, List.set_cons_succ]
        refine anyC_take (i := 2) (v := ?_) rfl (by kernel_rfl) (by kernel_rfl) (by kernel_rfl) (fun _ _ _ h => h) (And.intro HI2d.out.2.2.2.1 (And.intro HI2d.out.2.2.2.2.1 HX2d.out)) (Or.inl ⟨by rfl, ?_⟩) ?_
        rotate_left
        · intro W' hW
          have x : W'.cell? ⟨wr.heap.size, 0, none⟩ = some (.int .i64 2) := hW.2.2.cell 0
          go_simp
          try with_reducible rfl
        try simp only [List.getElem_toArray, List.getElem_cons_zero, List.getElem_cons_succ, Act.put, List.setIfInBounds_toArray, List.set_cons_zero, List.set_cons_succ]
        refine anyC_take (i := 3) (v := ?_) rfl (by kernel_rfl) (by kernel_rfl) (by kernel_rfl) (fun _ _ _ h => h) (And.intro HI2d.out.2.2.2.1 (And.intro HI2d.out.2.2.2.2.1 HX2d.out)) (Or.inl ⟨by rfl, ?_⟩) ?_
        rotate_left
        · intro W' hW
          go_simp
          try with_reducible rfl
        try simp only [List.getElem_toArray, List.getElem_cons_zero, List.getElem_cons_succ, Act.put, List.setIfInBounds_toArray, List.set_cons_zero, List.set_cons_succ]
        refine anyC_take (i := 4) (v := ?_) rfl (by kernel_rfl) (by kernel_rfl) (by kernel_rfl) (fun _ _ _ h => h) (And.intro HI2d.out.2.2.2.1 (And.intro HI2d.out.2.2.2.2.1 HX2d.out)) (Or.inl ⟨by rfl, ?_⟩) ?_
        rotate_left
        · intro W' hW
          have x : W'.cell? ⟨w.heap.size + 3, 2, none⟩ = some (.func (.func 28) #[.pointer (some ⟨vb, 0, none⟩)] #[]) := hW.2.1.cell 2
          go_simp
          try with_reducible rfl
        try simp only [List.getElem_toArray, List.getElem_cons_zero, List.getElem_cons_succ, Act.put, List.setIfInBounds_toArray, List.set_cons_zero, List.set_cons_succ]
        refine anyC_take (i := 5) (v := ?_) rfl (by kernel_rfl) (by kernel_rfl) (by kernel_rfl) (fun _ _ _ h => h) (And.intro HI2d.out.2.2.2.1 (And.intro HI2d.out.2.2.2.2.1 HX2d.out)) (Or.inl ⟨by rfl, ?_⟩) ?_
        rotate_left
        · intro W' hW
          have x0 : W'.cell? ⟨wr.heap.size, 0, none⟩ = some (.int .i64 2) := hW.2.2.cell 0
          have x1 : W'.cell? ⟨wr.heap.size, 1, none⟩ = some (.int .u32 (uid : Nat)) := hW.2.2.cell 1
          have x2 : W'.cell? ⟨wr.heap.size, 2, none⟩ = some (.int .u8 (fle : Nat)) := hW.2.2.cell 2
          go_simp
          try with_reducible rfl
        try simp only [List.getElem_toArray, List.getElem_cons_zero, List.getElem_cons_succ, Act.put, List.setIfInBounds_toArray, List.set_cons_zero, List.set_cons_succ]
        refine anyC_one (i := 6) (by kernel_rfl) (fun K hK => ⟨_, rfl, by kernel_rfl, ?_⟩)
        go_simp
        refine (gone_any B vb ib v1 sl false 2 uid (fle : Nat) _ HI2d.out.1 HX.out.2.1.1 (by have h := HX.out.2.2.2.1; exact h)).mono ?_
        rintro e w5 ⟨rfl, v2, hv5, hf5⟩
        have HI5 := Lib.hid (HI2d.out.view hv5 hf5)
        have HX5 : Hid (Blk w5 wr.heap.size 46 #[.int .i64 2, .int .u32 (uid : Nat), .int .u8 (fle : Nat)]) := Lib.hid ((hf5.2.1 wr.heap.size HX2d.out.lt (by have := HN.out; omega) (by have := HN.out; omega) HN.out.2.2.1).1.trans HX2d.out)
        clear hv5 hf5
        refine hK _ _ (And.intro HI5.out.2.2.2.1 (And.intro HI5.out.2.2.2.2.1 HX5.out)) ?_
        clear hK K
        try simp only [List.getElem_toArray, List.getElem_cons_zero, List.getElem_cons_succ, Act.put, List.setIfInBounds_toArray, List.set_cons_zero, List.set_cons_succ]
        refine anyC_take (i := 7) (v := ?_) rfl (by kernel_rfl) (by kernel_rfl) (by kernel_rfl) (fun _ _ _ h => h) (And.intro HI5.out.2.2.2.1 (And.intro HI5.out.2.2.2.2.1 HX5.out)) (Or.inl ⟨by rfl, ?_⟩) ?_
        rotate_left
        · intro W' hW
          go_simp
          try with_reducible rfl
        try simp only [List.getElem_toArray, List.getElem_cons_zero, List.getElem_cons_succ, Act.put, List.setIfInBounds_toArray, List.set_cons_zero, List.set_cons_succ]
        refine anyC_take (i := 8) (v := ?_) rfl (by kernel_rfl) (by kernel_rfl) (by kernel_rfl) (fun _ _ _ h => h) (And.intro HI5.out.2.2.2.1 (And.intro HI5.out.2.2.2.2.1 HX5.out)) (Or.inl ⟨by rfl, ?_⟩) ?_
        rotate_left
        · intro W' hW
          go_simp
          try with_reducible rfl
        try simp only [List.getElem_toArray, List.getElem_cons_zero, List.getElem_cons_succ, Act.put, List.setIfInBounds_toArray, List.set_cons_zero, List.set_cons_succ]
        refine anyC_one (i := 9) (by kernel_rfl) (fun K hK => ⟨_, rfl, by kernel_rfl, ?_⟩)
        go_simp
        refine (add_any w.heap.size (w.heap.size + 1) _ _ (expR (posU sl uid)) (decide (0 < posU sl uid)) _ HI5.out.2.1 (by rw [List.length_append]; have h : so.length ≤ 200000 := HX.out.2.2.2.2; have h2 : (if sg then [cntR sl] else []).length ≤ 1 := (by split <;> simp); omega)).mono ?_
        rintro e w6 ⟨rfl, ov6, ho6, hb6, hk6, hs6⟩
        have HI6 := Lib.hid (HI5.out.out ho6 hb6 hk6 hs6)
        have HX6 : Hid (Blk w6 wr.heap.size 46 #[.int .i64 2, .int .u32 (uid : Nat), .int .u8 (fle : Nat)]) := Lib.hid ((hk6 wr.heap.size HX5.out.lt (by have := HN.out; omega) (by first | exact HN.out.2.2.2.1 | exact HN2.out)).1.trans HX5.out)
        clear ho6 hb6 hk6 hs6
        refine hK _ _ (And.intro HI6.out.2.2.2.1 (And.intro HI6.out.2.2.2.2.1 HX6.out)) ?_
        clear hK K
        try simp only [List.getElem_toArray, List.getElem_cons_zero, List.getElem_cons_succ, Act.put, List.setIfInBounds_toArray, List.set_cons_zero, List.set_cons_succ]
        refine anyC_done (by kernel_rfl) ?_ _
        go_wp2_with fail
        go_roundw
        case rel =>
          refine ⟨k + 1, v2, ov6, _, by omega, by go_num, HX.out.1, ?_⟩
          rw [evP_2]
          exact HI6.out
        case measure => simp [intOf]; omega
      by_cases e3 : kd = 3
      · subst e3
        have hbx : Below wr.heap.size wr (wr.alloc (.cells #[.int .i64 3, .int .u32 (uid : Nat), .int .u8 (fle : Nat)] 46)) := (Below.refl _ _).alloc (Nat.le_refl _) _
        have HI1 := Lib.hid (HI.out.below hbx)
        have HX1 := Lib.hid (Blk.made wr 46 #[.int .i64 3, .int .u32 (uid : Nat), .int .u8 (fle : Nat)])
        have HN := Lib.hid (show vb < w.heap.size ∧ ib < w.heap.size ∧ v1.ownBlock ≠ some wr.heap.size ∧ ov.ownBlock ≠ some wr.heap.size ∧ w.heap.size + 4 ≤ wr.heap.size from ⟨HI.out.2.2.2.2.2.2.1.1, HI.out.2.2.2.2.2.2.1.2.1, fun e => by have := (HI.out.1.2.1.own_lt _ e).1; omega, fun e => by have := (HI.out.2.1.own_lt _ e).1; omega, HI.out.2.2.2.2.2.2.1.2.2.2⟩)
        clear hbx
        have HEx := Lib.hid (exists_any w (wr.alloc (.cells #[.int .i64 3, .int .u32 (uid : Nat), .int .u8 (fle : Nat)] 46)) B vb ib v v1 sl sg ov so HI1.out (by have h := HX.out.2.2.2.1; exact h) (by have h : so.length ≤ 200000 := HX.out.2.2.2.2; omega))
        go_wp2_with fail
        refine HEx.out.mono ?_
        rintro e w2 ⟨rfl, ov2, hI2, ho2⟩
        have HI2 := Lib.hid hI2
        have HX2 : Hid (Blk w2 wr.heap.size 46 #[.int .i64 3, .int .u32 (uid : Nat), .int .u8 (fle : Nat)]) := Lib.hid ((ho2 wr.heap.size (by have := HN.out; omega) (by rw [World.size_alloc]; omega) HN.out.2.2.1 HN.out.2.2.2.1).1.trans HX1.out)
        have HN2 := Lib.hid (ho2 wr.heap.size (by have := HN.out; omega) (by rw [World.size_alloc]; omega) HN.out.2.2.1 HN.out.2.2.2.1).2
        have x0 : w2.cell? ⟨wr.heap.size, 0, none⟩ = some (.int .i64 3) := HX2.out.cell 0
        clear hI2 ho2
        go_upto_region 13 with fail
        have HI2d := Lib.hid (show ApI w w2.drew B vb ib v v1 sl false ov2 (so ++ if sg then [cntR sl] else []) from HI2.out.below (Below.drew (Below.refl _ _)))
        have HX2d := Lib.hid (show Blk w2.drew wr.heap.size 46 #[.int .i64 3, .int .u32 (uid : Nat), .int .u8 (fle : Nat)] from HX2.out)
        refine region_anyC (fun W' => Blk W' (w.heap.size + 2) 59 #[.func (.func 23) #[] #[.pointer (some ⟨w.heap.size + 1, 0, none⟩)]] ∧ Blk W' (w.heap.size + 3) 63 #[.func (.func 26) #[.pointer (some ⟨vb, 0, none⟩)] #[], .func (.func 27) #[.pointer (some ⟨vb, 0, none⟩)] #[], .func (.func 28) #[.pointer (some ⟨vb, 0, none⟩)] #[], .func (.func 29) #[.pointer (some ⟨vb, 0, none⟩)] #[]] ∧ Blk W' wr.heap.size 46 #[.int .i64 3, .int .u32 (uid : Nat), .int .u8 (fle : Nat)]) (by kernel_rfl) ?_
        refine anyC_take (i := 1) (v := ?_) rfl (by kernel_rfl) (by kernel_rfl) (by kernel_rfl) (fun _ _ _ h => h) (And.intro HI2d.out.2.2.2.1 (And.intro HI2d.out.2.2.2.2.1 HX2d.out)) (Or.inl ⟨by rfl, ?_⟩) ?_
        rotate_left
        · intro W' hW
          go_simp
          try with_reducible rfl
        try simp only [List.getElem_toArray, List.getElem_cons_zero, List.getElem_cons_succ, Act.put, List.setIfInBounds_toArray, List.set_cons_zero, List.set_cons_succ]
        refine anyC_take (i := 0) (v := ?_) rfl (by kernel_rfl) (by kernel_rfl) (by kernel_rfl) (fun _ _ _ h => h) (And.intro HI2d.out.2.2.2.1 (And.intro HI2d.out.2.2.2.2.1 HX2d.out)) (Or.inl ⟨by rfl, ?_⟩) ?_
        rotate_left
        · intro W' hW
          have x : W'.cell? ⟨w.heap.size + 2, 0, none⟩ = some (.func (.func 23) #[] #[.pointer (some ⟨w.heap.size + 1, 0, none⟩)]) := hW.1.cell 0
          go_simp
          try with_reducible rfl
        try simp only [List.getElem_toArray, List.getElem_cons_zero, List.getElem_cons_succ, Act.put, List.setIfInBounds_toArray, List.set_cons_zero, List.set_cons_succ]
        refine anyC_take (i := 2) (v := ?_) rfl (by kernel_rfl) (by kernel_rfl) (by kernel_rfl) (fun _ _ _ h => h) (And.intro HI2d.out.2.2.2.1 (And.intro HI2d.out.2.2.2.2.1 HX2d.out)) (Or.inl ⟨by rfl, ?_⟩) ?_
        rotate_left
        · intro W' hW
          have x : W'.cell? ⟨wr.heap.size, 0, none⟩ = some (.int .i64 3) := hW.2.2.cell 0
          go_simp
          try with_reducible rfl
        try simp only [List.getElem_toArray, List.getElem_cons_zero, List.getElem_cons_succ, Act.put, List.setIfInBounds_toArray, List.set_cons_zero, List.set_cons_succ]
        refine anyC_take (i := 3) (v := ?_) rfl (by kernel_rfl) (by kernel_rfl) (by kernel_rfl) (fun _ _ _ h => h) (And.intro HI2d.out.2.2.2.1 (And.intro HI2d.out.2.2.2.2.1 HX2d.out)) (Or.inl ⟨by rfl, ?_⟩) ?_
        rotate_left
        · intro W' hW
          go_simp
          try with_reducible rfl
        try simp only [List.getElem_toArray, List.getElem_cons_zero, List.getElem_cons_succ, Act.put, List.setIfInBounds_toArray, List.set_cons_zero, List.set_cons_succ]
        refine anyC_take (i := 4) (v := ?_) rfl (by kernel_rfl) (by kernel_rfl) (by kernel_rfl) (fun _ _ _ h => h) (And.intro HI2d.out.2.2.2.1 (And.intro HI2d.out.2.2.2.2.1 HX2d.out)) (Or.inl ⟨by rfl, ?_⟩) ?_
        rotate_left
        · intro W' hW
          have x : W'.cell? ⟨w.heap.size + 3, 3, none⟩ = some (.func (.func 29) #[.pointer (some ⟨vb, 0, none⟩)] #[]) := hW.2.1.cell 3
          go_simp
          try with_reducible rfl
        try simp only [List.getElem_toArray, List.getElem_cons_zero, List.getElem_cons_succ, Act.put, List.setIfInBounds_toArray, List.set_cons_zero, List.set_cons_succ]
        refine anyC_take (i := 5) (v := ?_) rfl (by kernel_rfl) (by kernel_rfl) (by kernel_rfl) (fun _ _ _ h => h) (And.intro HI2d.out.2.2.2.1 (And.intro HI2d.out.2.2.2.2.1 HX2d.out)) (Or.inl ⟨by rfl, ?_⟩) ?_
        rotate_left
        · intro W' hW
          have x0 : W'.cell? ⟨wr.heap.size, 0, none⟩ = some (.int .i64 3) := hW.2.2.cell 0
          have x1 : W'.cell? ⟨wr.heap.size, 1, none⟩ = some (.int .u32 (uid : Nat)) := hW.2.2.cell 1
          have x2 : W'.cell? ⟨wr.heap.size, 2, none⟩ = some (.int .u8 (fle : Nat)) := hW.2.2.cell 2
          go_simp
          try with_reducible rfl
        try simp only [List.getElem_toArray, List.getElem_cons_zero, List.getElem_cons_succ, Act.put, List.setIfInBounds_toArray, List.set_cons_zero, List.set_cons_succ]
        refine anyC_one (i := 6) (by kernel_rfl) (fun K hK => ⟨_, rfl, by kernel_rfl, ?_⟩)
        go_simp
        refine (changed_any B vb ib v1 sl false 3 uid (fle : Nat) _ HI2d.out.1 HX.out.2.1.1 (by have h := HX.out.2.2.2.1; exact h)).mono ?_
        rintro e w5 ⟨rfl, v2, hv5, hf5⟩
        have HI5 := Lib.hid (HI2d.out.view hv5 hf5)
        have HX5 : Hid (Blk w5 wr.heap.size 46 #[.int .i64 3, .int .u32 (uid : Nat), .int .u8 (fle : Nat)]) := Lib.hid ((hf5.2.1 wr.heap.size HX2d.out.lt (by have := HN.out; omega) (by have := HN.out; omega) HN.out.2.2.1).1.trans HX2d.out)
        clear hv5 hf5
        refine hK _ _ (And.intro HI5.out.2.2.2.1 (And.intro HI5.out.2.2.2.2.1 HX5.out)) ?_
        clear hK K
        try simp only [List.getElem_toArray, List.getElem_cons_zero, List.getElem_cons_succ, Act.put, List.setIfInBounds_toArray, List.set_cons_zero, List.set_cons_succ]
        refine anyC_take (i := 7) (v := ?_) rfl (by kernel_rfl) (by kernel_rfl) (by kernel_rfl) (fun _ _ _ h => h) (And.intro HI5.out.2.2.2.1 (And.intro HI5.out.2.2.2.2.1 HX5.out)) (Or.inl ⟨by rfl, ?_⟩) ?_
        rotate_left
        · intro W' hW
          go_simp
          try with_reducible rfl
        try simp only [List.getElem_toArray, List.getElem_cons_zero, List.getElem_cons_succ, Act.put, List.setIfInBounds_toArray, List.set_cons_zero, List.set_cons_succ]
        refine anyC_take (i := 8) (v := ?_) rfl (by kernel_rfl) (by kernel_rfl) (by kernel_rfl) (fun _ _ _ h => h) (And.intro HI5.out.2.2.2.1 (And.intro HI5.out.2.2.2.2.1 HX5.out)) (Or.inl ⟨by rfl, ?_⟩) ?_
        rotate_left
        · intro W' hW
          go_simp
          try with_reducible rfl
        try simp only [List.getElem_toArray, List.getElem_cons_zero, List.getElem_cons_succ, Act.put, List.setIfInBounds_toArray, List.set_cons_zero, List.set_cons_succ]
        refine anyC_one (i := 9) (by kernel_rfl) (fun K hK => ⟨_, rfl, by kernel_rfl, ?_⟩)
        go_simp
        refine (add_any w.heap.size (w.heap.size + 1) _ _ (fetR (posU sl uid) fle) (decide (0 < posU sl uid)) _ HI5.out.2.1 (by rw [List.length_append]; have h : so.length ≤ 200000 := HX.out.2.2.2.2; have h2 : (if sg then [cntR sl] else []).length ≤ 1 := (by split <;> simp); omega)).mono ?_
        rintro e w6 ⟨rfl, ov6, ho6, hb6, hk6, hs6⟩
        have HI6 := Lib.hid (HI5.out.out ho6 hb6 hk6 hs6)
        have HX6 : Hid (Blk w6 wr.heap.size 46 #[.int .i64 3, .int .u32 (uid : Nat), .int .u8 (fle : Nat)]) := Lib.hid ((hk6 wr.heap.size HX5.out.lt (by have := HN.out; omega) (by first | exact HN.out.2.2.2.1 | exact HN2.out)).1.trans HX5.out)
        clear ho6 hb6 hk6 hs6
        refine hK _ _ (And.intro HI6.out.2.2.2.1 (And.intro HI6.out.2.2.2.2.1 HX6.out)) ?_
        clear hK K
        try simp only [List.getElem_toArray, List.getElem_cons_zero, List.getElem_cons_succ, Act.put, List.setIfInBounds_toArray, List.set_cons_zero, List.set_cons_succ]
        refine anyC_done (by kernel_rfl) ?_ _
        go_wp2_with fail
        go_roundw
        case rel =>
          refine ⟨k + 1, v2, ov6, _, by omega, by go_num, HX.out.1, ?_⟩
          rw [evP_3]
          exact HI6.out
        case measure => simp [intOf]; omega
      have hbx : Below wr.heap.size wr (wr.alloc (.cells #[.int .i64 kd, .int .u32 (uid : Nat), .int .u8 (fle : Nat)] 46)) := (Below.refl _ _).alloc (Nat.le_refl _) _
      have HI1 := Lib.hid (HI.out.below hbx)
      have HX1 := Lib.hid (Blk.made wr 46 #[.int .i64 kd, .int .u32 (uid : Nat), .int .u8 (fle : Nat)])
      have HN := Lib.hid (show vb < w.heap.size ∧ ib < w.heap.size ∧ v1.ownBlock ≠ some wr.heap.size ∧ ov.ownBlock ≠ some wr.heap.size ∧ w.heap.size + 4 ≤ wr.heap.size from ⟨HI.out.2.2.2.2.2.2.1.1, HI.out.2.2.2.2.2.2.1.2.1, fun e => by have := (HI.out.1.2.1.own_lt _ e).1; omega, fun e => by have := (HI.out.2.1.own_lt _ e).1; omega, HI.out.2.2.2.2.2.2.1.2.2.2⟩)
      clear hbx
      have b1 : (kd == 1) = false := by simpa using e1
      have b1n : (kd != 1) = true := by simpa using e1
      have HEx := Lib.hid (exists_any w (wr.alloc (.cells #[.int .i64 kd, .int .u32 (uid : Nat), .int .u8 (fle : Nat)] 46)) B vb ib v v1 sl sg ov so HI1.out (by have h := HX.out.2.2.2.1; exact h) (by have h : so.length ≤ 200000 := HX.out.2.2.2.2; omega))
      go_wp2_with fail
      refine HEx.out.mono ?_
      rintro e w2 ⟨rfl, ov2, hI2, ho2⟩
      have HI2 := Lib.hid hI2
      have HX2 : Hid (Blk w2 wr.heap.size 46 #[.int .i64 kd, .int .u32 (uid : Nat), .int .u8 (fle : Nat)]) := Lib.hid ((ho2 wr.heap.size (by have := HN.out; omega) (by rw [World.size_alloc]; omega) HN.out.2.2.1 HN.out.2.2.2.1).1.trans HX1.out)
      have HN2 := Lib.hid (ho2 wr.heap.size (by have := HN.out; omega) (by rw [World.size_alloc]; omega) HN.out.2.2.1 HN.out.2.2.2.1).2
      have x0 : w2.cell? ⟨wr.heap.size, 0, none⟩ = some (.int .i64 kd) := HX2.out.cell 0
      clear hI2 ho2
      by_cases hp : 0 < kd
      · have hpd : decide (0 < kd) = true := decide_eq_true hp
        have hq : ¬ (kd < 4) := by omega
        have hqd : decide (kd < 4) = false := decide_eq_false hq
        go_wp2_with fail
        go_roundw
        case rel =>
          refine ⟨k + 1, v1, ov2, _, by omega, by go_num, HX.out.1, ?_⟩
          rw [evP_n _ _ _ _ _ _ e1 e2 e3]
          exact HI2.out
        case measure => simp [intOf]; omega
      · have hpd : decide (0 < kd) = false := decide_eq_false hp
        go_wp2_with fail
        go_roundw
        case rel =>
          refine ⟨k + 1, v1, ov2, _, by omega, by go_num, HX.out.1, ?_⟩
          rw [evP_n _ _ _ _ _ _ e1 e2 e3]
          exact HI2.out
        case measure => simp [intOf]; omega
    · obtain rfl : k = m := by omega
      have hEx := exists_any w wr B vb ib v v1 s.1.1 s.1.2 ov s.2 hI hsl (by omega)
      have HEx := Lib.hid hEx
      have hsE : runV ((l, g), []) E = s := by rw [← hs, List.take_of_length_le (by have := HE.out.1; omega)]
      have HS := Lib.hid hsE
      clear hEx hI hsE hs hfc hsl hol
      go_wp2_with fail
      refine HEx.out.mono ?_
      rintro e w2 ⟨rfl, ov2, hI2, -⟩
      have y0 : w2.cell? ⟨w.heap.size + 1, 0, none⟩ = some ov2 := hI2.2.1.1.cell 0
      have HI2 := Lib.hid hI2
      clear hI2
      go_wp2_with fail
      go_ret
      refine ⟨ov2, _, rfl, ?_, ?_, HI2.out.2.2.2.2.2.1, HI2.out.2.2.2.2.2.2.2.2⟩
      · rw [HA.out.2, HS.out]
        exact HI2.out.2.1.2.1
      · rw [HA.out.1, HS.out]
        exact HI2.out.1
end Go.Proofs.YtponmnabbieafaaGreatDoor
