/- Split: what holds between two frames of the range. · The walk of Split. · The walk of the reference's Split. · The walk of same: frames of the program and of the reference. · The walk of drain. · The walk of the example of chapter 05. · The walks of slices.Grow (on nil) and slices.Concat over bytes. -/
import Derived.Test.YtllboenffepcgaaDoorJ7
import Derived.Test.YtllboenffepcgaaDoorJ4
import Derived.Lib.SlBytesConst
import Derived.Lib.AppendZeros
set_option linter.unusedVariables false
set_option linter.unusedSimpArgs false
namespace Go.Proofs.YtllboenffepcgaaDoor
open Go Go.RowKit Go.Shelf

theorem infoFrm : (Tryd.prog.info? 37).map (fun i => (i.zero, i.size, i.bytes)) = some (some (.agg #[.int .i64 0, .slice none 0 0]), 2, 32) := by kernel_rfl
def okF (lo s B ob : Nat) (r : Option Nat) (k : Nat) : Prop := lo ≤ k ∧ k ≠ s ∧ k ≠ B ∧ k ≠ ob ∧ r ≠ some k
def Gs.pl (i : Gs) : List Frm := match i.pend with
  | none => []
  | some (f, _, _) => [f]
/-- Between two steps of the range in Split. -/
structure JS (w0 : World) (s B ob : Nat) (b0 : List UInt8) (i : Gs) (W : World) : Prop where
  low : Low w0 W s
  spl : Spl W s i.r i.b i.p
  box : Blk W B 24 #[.pointer (some ⟨s, 0, none⟩)]
  len : i.b.length ≤ b0.length
  run : Run b0 0 (i.fs ++ i.pl) i.b i.p
  ne1 : s ≠ B
  ne2 : s ≠ ob
  ne3 : B ≠ ob
  lob : w0.heap.size ≤ ob
  rB : i.r ≠ some B
  rO : i.r ≠ some ob
  out : ∃ v, Blk W ob 27 #[v] ∧ OutF W (okF w0.heap.size s B ob i.r) v i.fs ∧ (i.fs = [] → v = .slice none 0 0) ∧ ∀ f pv cv, i.pend = some (f, pv, cv) → BysL W (fun k => okF w0.heap.size s B ob i.r k ∧ v.ownBlock ≠ some k) pv f.data
section
variable {w0 : World} {s B ob : Nat} {b0 : List UInt8}
theorem JS.quiet {i : Gs} {W W' : World} {lo : Nat} (h : JS w0 s B ob b0 i W) (q : Quiet lo W W') (hl : w0.heap.size ≤ lo) : JS w0 s B ob b0 i W' := by
  obtain ⟨h1, h2, h3, h4, h5, h6, h7, h8, h9, h10, h11, v, h12, h13, h14, h15⟩ := h
  exact ⟨q.low h1 hl, q.spl h2, q.blk h3, h4, h5, h6, h7, h8, h9, h10, h11, v, q.blk h12, q.outF h13, h14, fun f pv cv e => q.bysL (h15 f pv cv e)⟩
theorem Spl.kept {W W' : World} {s p : Nat} {r row : Option Nat} {b : List UInt8} (h : Spl W s r b p) (hg : W.grownBy W' row) (h1 : some s ≠ row) (h2 : ∀ g, r = some g → some g ≠ row) : Spl W' s r b p := by
  obtain ⟨v, a, k, e, h3, h4, h5, h6⟩ := h
  exact ⟨v, a, k, e, h3.grown hg h1, h4.grown hg (fun k hk => h2 k (by rw [← h5, hk])), h5, h6⟩
/-- A step that turns the splitter alone. -/
theorem JS.step {i i' : Gs} {W W' : World} (h : JS w0 s B ob b0 i W) (hp : i.pend = none) (hg : W.grownBy W' (some s)) (hf : i'.fs = i.fs) (hs : Spl W' s i'.r i'.b i'.p) (hl : i'.b.length ≤ i.b.length) (hr : ∀ g, i'.r = some g → i.r = some g ∨ W.heap.size ≤ g)
    (hrun : Run i.b i.p i'.pl i'.b i'.p) (hpd : ∀ f pv cv, i'.pend = some (f, pv, cv) → BysL W' (fun g => W.heap.size ≤ g ∧ i'.r ≠ some g) pv f.data) : JS w0 s B ob b0 i' W' := by
  obtain ⟨h1, h2, h3, h4, h5, h6, h7, h8, h9, h10, h11, v, h12, h13, h14, h15⟩ := h
  have hB := h3.lt
  have hO := h12.lt
  have hs1 := h2.lt
  have hsz := h1.1.size
  have hv := h13.own_lt'
  have e0 : i.pl = [] := by unfold Gs.pl; rw [hp]
  rw [e0, List.append_nil] at h5
  refine ⟨h1.grown hg, hs, h3.grown hg (fun e => by injection e with e; exact h6 e.symm), by omega, by rw [hf]; exact h5.trans hrun, h6, h7, h8, h9, fun e => ?_, fun e => ?_, v, h12.grown hg (fun e => by injection e with e; exact h7 e.symm),
    by rw [hf]; exact h13.keep (KeptOn.grown hg (fun k e => by injection e with e; subst e; rintro ⟨_, h, _⟩; exact h rfl)) (fun k hk ho => ⟨ho.1, ho.2.1, ho.2.2.1, ho.2.2.2.1, fun e => by
      rcases hr k e with e2 | e2
      · exact ho.2.2.2.2 e2
      · omega⟩), by rw [hf]; exact h14, fun f pv cv e h0 => ?_⟩
  · rcases hr _ e with e2 | e2
    · exact h10 e2
    · omega
  · rcases hr _ e with e2 | e2
    · exact h11 e2
    · omega
  · obtain ⟨b, o, e1, ⟨h16, h17⟩, h18, h19⟩ := hpd f pv cv e h0
    exact ⟨b, o, e1, ⟨⟨by omega, by omega, by omega, by omega, h17⟩, fun e => by have := hv _ e; omega⟩, h18, h19⟩
theorem JS.steps (hb0 : b0.length ≤ 1048576) : Steps w0 s B (JS w0 s B ob b0) where
  at_ i W h := ⟨h.spl, Nat.le_trans h.len hb0, h.low, (h.box.cell 0).trans rfl⟩
  alloc i W o h := h.quiet (Quiet.alloc (lo := w0.heap.size) W o) (Nat.le_refl _)
  wait i W W' h hg hs hp := h.step hp hg rfl hs (Nat.le_refl _) (fun g e => .inl e) (by unfold Gs.pl; rw [hp]; exact .refl _ _) (fun f pv cv e => by rw [hp] at e; cases e)
  ready i W W' a n h hst hp hg hs := h.step hp hg rfl hs (Nat.le_refl _) (fun g e => .inl e) (Run.one_ready hst) (fun f pv cv e => by
    simp only [Option.some.injEq, Prod.mk.injEq] at e
    obtain ⟨rfl, rfl, rfl⟩ := e
    exact BysL.nil _ _ _)
  done i W W' f k r' pv cv h hst hp hg hs hb hr := h.step hp hg rfl hs (by simp only [List.length_drop]; omega) (fun g e => .inr (hr g e)) (Run.one_done hst) (fun f' pv' cv' e => by
    simp only [Option.some.injEq, Prod.mk.injEq] at e
    obtain ⟨rfl, rfl, rfl⟩ := e
    exact hb)
/-- The body of the range: 'out = append(out, f)'. -/
theorem JS.push {i i' : Gs} {W : World} {x : Value} (h : JS w0 s B ob b0 i W) (hb0 : b0.length ≤ 1048576) (ht : i.takes x i') : ∃ kd pv n cv v pv' cv' w', x = .agg #[.int .i64 kd, .slice pv n cv] ∧ Blk W ob 27 #[v] ∧
    (Builtin.append_ #[27, 27] 27 #[v, .slice (some ⟨W.heap.size, 0, none⟩) 1 1]).run Tryd.prog (W.alloc (.cells #[.int .i64 kd, .slice pv n cv] 37)) = .ok (.slice pv' (i.fs.length + 1) cv') w' ∧
    Blk w' ob 27 #[v] ∧ JS w0 s B ob b0 i' (w'.setCell ⟨ob, 0, none⟩ (.slice pv' (i.fs.length + 1) cv')) ∧ KeepsOthers W (w'.setCell ⟨ob, 0, none⟩ (.slice pv' (i.fs.length + 1) cv')) := by
  obtain ⟨f, pv, cv, hp, rfl, rfl⟩ := ht
  have h' := h.quiet (Quiet.alloc (lo := w0.heap.size) W (.cells #[.int .i64 f.kind, .slice pv f.data.length cv] 37)) (Nat.le_refl _)
  obtain ⟨v, h12, ⟨xs, hbuf, hfrs, hov⟩, h14, h15⟩ := h'.out
  obtain ⟨i0, hi, hz0, hz1, hz2⟩ := info_parts infoFrm
  have hcnt := h.run.count
  have hlen := h.len
  simp only [List.length_append, Gs.pl, hp, List.length_singleton] at hcnt
  have hd := h15 f pv cv hp
  obtain ⟨v', w', hrun, hb', hgr, hrw⟩ := run_append_buf (P := Tryd.prog) _ 27 27 37 i0 _ 2 32 Tryd.underlying27 hi hz0 hz1 hz2 rfl (by decide) 0 v i.fs.length xs hbuf (some ⟨W.heap.size, 0, none⟩) 1 1 [.int .i64 f.kind, .slice pv f.data.length cv]
    ⟨rfl, fun u hu => by simp at hu; rcases hu with rfl | rfl <;> rfl, fun _ => ⟨_, rfl, fun j u hj => by
      rw [Go.WideShapes.add_plain]
      simp only [World.cell?, heap_alloc_new, Nat.zero_add]
      simpa using hj⟩⟩ (by unfold maxLen; omega) (by omega) (Nat.zero_le _)
  have hsO : ∀ k, v.ownBlock = some k → k ≠ s ∧ k ≠ B ∧ k ≠ ob ∧ i.r ≠ some k ∧ w0.heap.size ≤ k := fun k e => by
    obtain ⟨a1, a2, a3, a4, a5⟩ := hov k e
    exact ⟨a2, a3, a4, a5, a1⟩
  have hlo := h'.low.1.size
  have hrl : ∀ g, i.r = some g → g < (W.alloc (.cells #[.int .i64 f.kind, .slice pv f.data.length cv] 37)).heap.size := fun g e => (h'.spl.row e).1
  have hs1 := h'.spl.lt
  have hB1 := h'.box.lt
  have hO1 := h12.lt
  have hout : OutF w' (okF w0.heap.size s B ob i.r) v' (i.fs ++ [f]) := OutF.push hfrs hov (Frs.one (cv := cv) hd) hb' hgr hrw (fun k hk => ⟨by omega, by omega, by omega, by omega, fun e => by have := hrl k e; omega⟩)
  obtain ⟨pv', cv', e', -⟩ := hout.shape
  rw [List.length_append] at e'
  subst e'
  have hO2 : Blk w' ob 27 #[v] := h12.grown hgr (fun e => (hsO ob e.symm).2.2.1 rfl)
  have hput : w'.grownBy (w'.setCell ⟨ob, 0, none⟩ (.slice pv' (i.fs.length + 1) cv')) (some ob) := grown_put (World.grownBy.refl _ _) _ _
  have hcell : ∀ (j : Nat) (o : Obj), v.ownBlock = some j → (W.alloc (.cells #[.int .i64 f.kind, .slice pv f.data.length cv] 37)).heap[j]? = some o → o.isCells = true := fun j o e ho => by
    cases hfs : i.fs with
    | nil => rw [h14 hfs] at e; cases e
    | cons a l =>
      rcases hbuf.2 with ⟨e2, _⟩ | ⟨g, off, cap, e2, _, _, h3, _, h5⟩
      · rw [e2] at e; cases e
      · rw [e2] at e
        simp only [Value.ownBlock, Option.some.injEq] at e
        subst e
        rw [hfs] at h3
        simp only [List.length_cons] at h3
        have := (h5 0 (by omega)).1
        unfold World.cell? at this
        simp only [ho] at this
        cases o <;> first | rfl | cases this
  have hbk : Blk W ob 27 #[v] := by
    obtain ⟨v0, hv0, -⟩ := h.out
    exact (Below.heap_alloc W _ ob hv0.lt).symm.trans h12
  refine ⟨f.kind, pv, f.data.length, cv, v, pv', cv', w', rfl, hbk, hrun, hO2, ?_, ((KeepsOthers.alloc W _).trans (KeepsOthers.of_grownBy hgr hcell)).trans (KeepsOthers.setCell _ _ _)⟩
  · have hout2 : OutF (w'.setCell ⟨ob, 0, none⟩ (.slice pv' (i.fs.length + 1) cv')) (okF w0.heap.size s B ob i.r) (.slice pv' (i.fs.length + 1) cv') (i.fs ++ [f]) := hout.keep (KeptOn.grown hput (fun k e => by injection e with e; subst e; rintro ⟨_, _, _, h, _⟩; exact h rfl)) (fun _ _ h => h)
    have hlow : Below w0.heap.size w0 w' := h'.low.1.grown hgr hlo (fun k e => (hsO k e).2.2.2.2)
    refine ⟨⟨hlow.grown hput hlow.size (fun k e => by injection e with e; subst e; exact h.lob), h.low.2⟩, ?_, (h'.box.grown hgr (fun e => (hsO B e.symm).2.1 rfl)).grown hput (fun e => by injection e with e; exact h.ne3 e), hlen, ?_, h.ne1, h.ne2, h.ne3, h.lob, h.rB, h.rO, _, ?_, hout2, fun e => by simp at e, fun f pv cv e => by cases e⟩
    · exact (h'.spl.kept hgr (fun e => (hsO s e.symm).1 rfl) (fun g e e2 => (hsO g e2.symm).2.2.2.1 e)).kept hput (fun e => by injection e with e; exact h.ne2 e) (fun g e e2 => by injection e2 with e2; exact h.rO (by rw [e, e2]))
    · have := h.run
      simp only [Gs.pl, hp] at this
      simp only [Gs.pl, List.append_nil]
      exact this
    · exact hO2.put 0 _
end
end Go.Proofs.YtllboenffepcgaaDoor
namespace Go.Proofs.YtllboenffepcgaaDoor
open Go Go.RowKit Go.Shelf
attribute [local go_sem] Oper.semAt_some

set_option maxRecDepth 100000 in
set_option maxHeartbeats 400000 in
theorem all_any (s : Nat) (w : World) :
    Calls Tryd.prog 27 #[.pointer (some ⟨s, 0, none⟩)] w fun e w' => e = .returned (.func (.func 42) #[] #[.pointer (some ⟨w.heap.size, 0, none⟩)]) ∧ w' = w.alloc (.cells #[.pointer (some ⟨s, 0, none⟩)] 24) := by
  go_enter Tryd.func27, Tryd.ntmps27
  go_wp2_with fail
  go_ret
  exact ⟨rfl, rfl⟩
/-- What Split hands back. -/
def SplPost (w : World) (b0 : List UInt8) (x : Ending) (w' : World) : Prop :=
  ∃ v fs b' p', x = .returned (.tuple #[v, .int .i64 (b'.length : Nat)]) ∧ OutF w' (fun k => w.heap.size ≤ k) v fs ∧ Run b0 0 fs b' p' ∧ stepF b' p' = .wait ∧ Below w.heap.size w w'

theorem Quiet.drew {lo : Nat} (W : World) : Quiet lo W W.drew := ⟨none, ⟨rfl, rfl, rfl, Nat.le_refl _, fun _ _ _ => rfl⟩, fun r e => by cases e⟩
theorem spl_post {w W W' : World} {s B ob lo : Nat} {b0 : List UInt8} {i : Gs} {v : Value} (h : JS w s B ob b0 i W') (hp : i.pend = none) (hw : stepF i.b i.p = .wait) (hv : Blk W ob 27 #[v]) (hq : Quiet lo W W') : SplPost w b0 (.returned (.tuple #[v, .int .i64 (i.b.length : Nat)])) W' := by
  obtain ⟨v', h1, h2, -, -⟩ := h.out
  have e : v = v' := by
    have h3 := (hq.blk hv).cell 0
    rw [h1.cell 0] at h3
    simpa using h3.symm
  subst e
  have hr := h.run
  simp only [Gs.pl, hp, List.append_nil] at hr
  exact ⟨v, i.fs, i.b, i.p, rfl, h2.keep (KeptOn.refl _ _) (fun k _ ho => ho.1), hr, hw, h.low.1⟩

set_option maxRecDepth 100000 in
set_option maxHeartbeats 3200000 in
theorem split_any (b0 : List UInt8) (pb : Option Addr) (cb : Nat) (w : World) (hb : Bys w w.heap.size pb b0) (hb0 : b0.length ≤ 524288) (hS : Std w) (hM : StdM w) :
    Calls Tryd.prog 16 #[.slice pb b0.length cb] w (SplPost w b0) := by
  refine (callsIn_wide (n := 5)).1 ?_
  refine callsIn_of_wp_marks Tryd.func16 rfl trivial ?_ rfl
  simp only [Tryd.ntmps16, List.size_toArray, List.length_cons, List.length_nil, Nat.reduceAdd, Nat.reduceSub, Array.replicate_succ, Array.replicate_zero, List.push_toArray, List.append_toArray, List.nil_append, List.cons_append]
  have HB := Lib.hid (And.intro hb (And.intro hb0 (And.intro hS hM)))
  clear hb hb0 hS hM
  generalize hn : b0.length = n at *
  have HN := Lib.hid hn
  clear hn
  gi_wp2
  refine ⟨trivial, ?_⟩
  refine (callsIn_wide.2 (new_any w)).mono ?_
  rintro e w1 ⟨rfl, h1, h2⟩
  have HF := Lib.hid (callsIn_wide (n := 5 - 1).2 (feed_any w.heap.size none [] 0 pb b0 cb w1 h1 ((HB.out.1.below h2).more h2.size) (by have h1 := HB.out.2.1; have h2 := HN.out; simp only [List.length_nil]; omega)))
  rw [HN.out] at HF
  have H1 := Lib.hid (And.intro h1 h2)
  clear h1 h2
  gi_wp2
  refine ⟨trivial, ?_⟩
  refine HF.out.mono ?_
  rintro e w2 ⟨⟨v0, rfl⟩, r, h3, h4, h5, h6, h7, h8⟩
  have H2 := Lib.hid (And.intro h3 (And.intro h4 (And.intro h5 (And.intro h6 (And.intro h7 h8)))))
  clear h3 h4 h5 h6 h7 h8
  gi_wp2
  refine ⟨trivial, ?_⟩
  refine (callsIn_wide.2 (all_any w.heap.size _)).mono ?_
  rintro e w3 ⟨rfl, rfl⟩
  gi_wp2
  obtain ⟨W0, hW0⟩ : ∃ W0, (w2.alloc (.cells #[.slice none 0 0] 27)).alloc (.cells #[.pointer (some ⟨w.heap.size, 0, none⟩)] 24) = W0 := ⟨_, rfl⟩
  have hj0 : JS w w.heap.size (w2.heap.size + 1) w2.heap.size b0 ⟨[], none, r, b0, 0⟩ W0 := by
    obtain ⟨h3, h4, h5, h6, h7, h8⟩ := H2.out
    obtain ⟨h1, h2⟩ := H1.out
    have hs1 := h1.lt
    have hs2 := h3.lt
    have hrow := fun g (e : r = some g) => h3.row e
    have hb2 : Below w.heap.size w w2 := ⟨h6.trans h2.os, h7.trans h2.tape, h8.trans h2.output, Nat.le_trans h2.size h5.1, fun k hk => (h5.2 k (Nat.lt_of_lt_of_le hk h2.size) ⟨by omega, fun e => by cases e⟩).trans (h2.block k hk)⟩
    have hb3 : Below w2.heap.size w2 W0 := by rw [← hW0]; exact ((Below.refl _ _).alloc (Nat.le_refl _) _).alloc (by rw [World.size_alloc]; omega) _
    refine ⟨⟨hb2.trans (hb3.mono hb2.size), Nat.le_refl _, HB.out.2.2.1, HB.out.2.2.2⟩, h3.below hb3, ?_, Nat.le_refl _, .refl _ _, by omega, by omega, by omega, hb2.size, fun e => ?_, fun e => ?_, .slice none 0 0, ?_, OutF.nil _ _, fun _ => rfl, fun f pv cv e => by cases e⟩
    · have := Blk.made (w2.alloc (.cells #[.slice none 0 0] 27)) 24 #[.pointer (some ⟨w.heap.size, 0, none⟩)]
      rw [hW0, World.size_alloc] at this
      exact this
    · have := hrow _ e; omega
    · have := hrow _ e; omega
    · rw [← hW0]; exact (Blk.made w2 27 #[.slice none 0 0]).past _
  have hz0 : W0.heap.size = w2.heap.size + 2 := by rw [← hW0, World.size_alloc, World.size_alloc]
  have hwz : w.heap.size ≤ w2.heap.size := hj0.lob
  rw [hW0]
  have HJ0 := Lib.hid hj0
  have HZ := Lib.hid hz0
  clear hj0 hW0
  refine wpIn_rangeFunc_state rfl (by decide) (gf := 42) (lb := #[.pointer (some ⟨w2.heap.size + 1, 0, none⟩)]) rfl trivial (enters_of Tryd.func42 (by kernel_rfl) rfl) (encs := fun x : Value => #[x]) (fun _ => rfl)
    (JS w w.heap.size (w2.heap.size + 1) w2.heap.size b0) Gs.takes (fun i => i.pend = none ∧ stepF i.b i.p = .wait) ⟨[], none, r, b0, 0⟩
    (fun i W l o o' hl hh ho hj => hj.quiet (Quiet.putObj o' hl hh ho) (by omega)) (fun rr => (HJ0.out.quiet (Quiet.alloc (lo := W0.heap.size) _ _) (by omega)).quiet (Quiet.alloc (lo := W0.heap.size) _ _) (by omega))
    (fun i x i' a1 W => JS w w.heap.size (w2.heap.size + 1) w2.heap.size b0 i W ∧ i.takes x i' ∧ ∃ kd pv m cv fb, x = .agg #[.int .i64 kd, .slice pv m cv] ∧ Blk W fb 37 #[.int .i64 kd, .slice pv m cv] ∧ a1 =
      { tmps := #[.slice pb n cb, undef, .slice none 0 0, .int .i64 0, .pointer (some ⟨w.heap.size, 0, none⟩), .pointer (some ⟨w2.heap.size, 0, none⟩), .pointer (some ⟨fb, 0, none⟩), .pointer (some ⟨w.heap.size, 0, none⟩), .pointer (some ⟨w.heap.size, 0, none⟩), .slice pb n cb, v0, .pointer (some ⟨w.heap.size, 0, none⟩), .func (.func 42) #[] #[.pointer (some ⟨w2.heap.size + 1, 0, none⟩)], x, undef, undef, undef, undef, undef, undef, undef], defers := [] })
    (fun i x i' a1 W l o o' hl hh ho ⟨hj, ht, kd, pv, m, cv, fb, hx, hfb, ha⟩ => ⟨hj.quiet (Quiet.putObj o' hl hh ho) (by omega), ht, kd, pv, m, cv, fb, hx, (Quiet.putObj o' hl hh ho).blk hfb, ha⟩) ?assign ?body ?hit ?done
  case assign =>
    intro l i x i' W K hj ht hsz hK
    obtain ⟨f, pv, cv, hp, rfl, rfl⟩ := id ht
    have HK := Lib.hid hK
    have HT := Lib.hid (And.intro hj ht)
    clear hK hj ht hp
    unfold frmV
    gi_wp2
    refine HK.out _ _ (KeepsOthers.alloc W (.cells #[.int .i64 f.kind, .slice pv f.data.length cv] 37)) ⟨HT.out.1.quiet (Quiet.alloc (lo := W0.heap.size) _ _) (by omega), HT.out.2, f.kind, pv, f.data.length, cv, W.heap.size, rfl, Blk.made _ _ _, rfl⟩
  case body =>
    rintro l i x i' a1 W ⟨hj, ht, kd, pv, m, cv, fb, rfl, hfb, rfl⟩ hsz
    obtain ⟨kd', pv', n', cv', v, pw, cw, w', he, hO, hrun, hO2, hj2, hko⟩ := hj.push (by have h1 := HB.out.2.1; have h2 := HN.out; omega) ht
    injection he with he
    simp only [Array.mk.injEq, List.cons.injEq, Value.int.injEq, Value.slice.injEq, and_true, true_and] at he
    obtain ⟨rfl, rfl, rfl, rfl⟩ := he
    obtain ⟨c0, c1, -, -⟩ := blk2 hfb
    have o0 : W.cell? ⟨w2.heap.size, 0, none⟩ = some v := (hO.cell 0).trans rfl
    have o1 : w'.cell? ⟨w2.heap.size, 0, none⟩ = some v := (hO2.cell 0).trans rfl
    have o2 := hO2.frz 0
    have HR := Lib.hid hrun
    have HE := Lib.hid (And.intro hko hj2)
    clear hrun hko hj2 hj ht hO hO2 hfb
    gi_wp2_with (gi_at_builtin; refine wpListIn_append_run _ rfl (.tmp 14) (.tmp 16) _ _ rfl _ _ rfl rfl _ _ HR.out ?_)
    exact HE.out
  case hit =>
    intro R W1 hR hRs hY hJ hR1
    have hall := all1_in (J := JS w w.heap.size (w2.heap.size + 1) w2.heap.size b0) (JS.steps (by have h1 := HB.out.2.1; have h2 := HN.out; omega)) (5 - 1) (by decide) (W0.heap.size + 1) R W0.heap.size (by omega) hR hRs (fun i x i' W h1 h2 h3 => hY i x i' W h1 h2 h3) ⟨[], none, r, b0, 0⟩ rfl W1 hJ hR1
    exact hall
  case done =>
    rintro i W ⟨hp, hw⟩ hj hK
    have hl0 := left_any w.heap.size i.r i.b i.p
    obtain ⟨v, hv, -⟩ := id hj.out
    have c0 : W.cell? ⟨w2.heap.size, 0, none⟩ = some v := (hv.cell 0).trans rfl
    have HL := Lib.hid (fun W' (hs : Spl W' w.heap.size i.r i.b i.p) => callsIn_wide (n := 5 - 1).2 (hl0 W' hs))
    have HJ := Lib.hid (And.intro hj (And.intro hp (And.intro hw (And.intro hK hv))))
    clear hl0 hj hp hw hK hv hz0
    gi_wp2
    refine wpIn_region_calm ?_
    gi_region_with (refine ⟨trivial, ?_⟩; gi_at_call 14; refine (HL.out _ (by exact HJ.out.1.spl)).mono ?_; rintro e w4 ⟨rfl, rfl⟩)
    all_goals
      refine NoPanic.normal ?_
      simp only [List.getElem_toArray, List.getElem_cons_zero, List.getElem_cons_succ, Act.put, List.setIfInBounds_toArray, List.set_cons_zero, List.set_cons_succ]
      gi_wp2
      obtain ⟨hj, hp, hw, hK, hv⟩ := HJ.out
      refine ⟨by simp, .inl ⟨_, _, rfl, run_takeDeferred (w := W.drew) hK, ?_⟩⟩
      have hd := hj.quiet (Quiet.drew (lo := W0.heap.size) W) (by have := HZ.out; omega)
      have hq := hd.quiet (Quiet.putObj (lo := W0.heap.size) (W := W.drew) (.deferred none) (Nat.le_refl _) hK rfl) (by have := HZ.out; omega)
      exact ⟨.tuple #[v, .int .i64 (i.b.length : Nat)], results_tmp2 (t := 2) (u := 3) rfl _ _ _, spl_post hq hp hw hv.drew (Quiet.putObj (lo := W0.heap.size) (W := W.drew) (.deferred none) (Nat.le_refl _) hK rfl)⟩
end Go.Proofs.YtllboenffepcgaaDoor
namespace Go.Proofs.YtllboenffepcgaaDoor
open Go.RowKit

/-- 'append(out, l...)'. -/
theorem out_append {W : World} {ok : Nat → Prop} {v lv : Value} {fs gs : List Frm} {lo : Nat} (h : OutF W ok v fs) (hl : OutF W (fun k => lo ≤ k) lv gs) (hlo : ∀ k, v.ownBlock = some k → k < lo) (hok : ∀ k, lo ≤ k → ok k) (hnew : ∀ k, W.heap.size ≤ k → ok k) (hc : fs.length + gs.length ≤ 1048576) :
    ∃ v' w', (Builtin.append_ #[30, 30] 30 #[v, lv]).run Tryd.prog W = .ok v' w' ∧ OutF w' ok v' (fs ++ gs) ∧ W.grownBy w' v.ownBlock := by
  obtain ⟨xs, hbuf, hfrs, hov⟩ := h
  obtain ⟨ys, hbuf2, hfrs2, hov2⟩ := hl
  obtain ⟨A, cap, rfl, -, hsrc⟩ := hbuf2.src hfrs2.cells
  obtain ⟨i0, hi, hz0, hz1, hz2⟩ := info_parts infoRFrm
  obtain ⟨v', w', hrun, hb', hgr, hrw⟩ := run_append_buf (P := Tryd.prog) W 30 30 51 i0 _ 2 32 Tryd.underlying30 hi hz0 hz1 hz2 rfl (by decide) 0 v fs.length xs hbuf A gs.length cap ys hsrc (by unfold maxLen; omega) (by omega) (Nat.zero_le _)
  exact ⟨v', w', hrun, OutF.push hfrs hov (hfrs2.keep (KeptOn.refl _ _) (fun k _ h => ⟨hok k h.1, fun e => by have := hlo k e; have := h.1; omega⟩)) hb' hgr hrw hnew, hgr⟩
/-- Between two rounds of the reference's Split. -/
def RSplAt (w : World) (b0 b : List UInt8) (pb : Option Addr) (cb : Nat) (v : Value) (wr : World) : Prop :=
  ∃ fs, Bys wr w.heap.size pb b ∧ b.length ≤ cb ∧ (pb = none → cb = 0) ∧ OutF wr (fun k => w.heap.size ≤ k) v fs ∧ Below w.heap.size w wr ∧ Run b0 0 fs b 0
/-- What one round makes of it. -/
theorem rspl_round {w wr w1 : World} {b0 b : List UInt8} {pb : Option Addr} {cb : Nat} {v : Value} {x : Ending} (h : RSplAt w b0 b pb cb v wr) (hl0 : b0.length ≤ 524288) (hx : CmdPost wr b x w1) :
    ∃ lv v' w2, (Builtin.append_ #[30, 30] 30 #[v, lv]).run Tryd.prog w1 = .ok v' w2 ∧
      ((x = .returned (.tuple #[lv, .int .i64 (-1)]) ∧ SplPost w b0 (.returned (.tuple #[v', .int .i64 (b.length : Nat)])) w2) ∨
      ∃ k : Nat, 2 ≤ k ∧ k ≤ b.length ∧ x = .returned (.tuple #[lv, .int .i64 k]) ∧ ∀ q, (if cb = k then pb else Option.map (fun x => x.add k) pb) = q → RSplAt w b0 (b.drop k) q (cb - k) v' w2) := by
  obtain ⟨fs, h1, h2, h3, h4, h5, h6⟩ := h
  obtain ⟨lv, gs, h7, h8, h9⟩ := hx
  have hv := h4.own_lt'
  have h4' := h4.keep (KeptOn.below h8) (fun _ _ h => h)
  have hs := h5.size
  have hs1 := h8.size
  have hc1 := h6.count
  have hc2 : 2 * gs.length ≤ b.length := by
    rcases h9 with ⟨-, p, hr, -⟩ | ⟨k, -, -, -, hr⟩
    · have := hr.count; omega
    · have := hr.count; omega
  obtain ⟨v', w2, hrun, hout, hgr⟩ := out_append h4' h7 hv (fun k hk => by omega) (fun k hk => by omega) (by omega)
  have hbw := h5.trans (h8.mono hs)
  have hg := hbw.grown hgr hbw.size (fun k e => by
    obtain ⟨xs, _, _, ho⟩ := h4
    exact ho k e)
  have hbb : Below w.heap.size wr w2 := (h8.mono hs).grown hgr (by omega) (fun k e => by
    obtain ⟨xs, _, _, ho⟩ := h4
    exact ho k e)
  refine ⟨lv, v', w2, hrun, ?_⟩
  rcases h9 with ⟨rfl, p, hr, hw⟩ | ⟨k, hk1, hk2, rfl, hr⟩
  · exact .inl ⟨rfl, v', _, b, p, rfl, hout, h6.trans hr, hw, hg⟩
  · refine .inr ⟨k, hk1, hk2, rfl, fun q hq => ⟨_, ?_, by rw [List.length_drop]; omega, fun e => ?_, hout, hg, h6.trans hr⟩⟩
    · have := (h1.below hbb).from_if k cb h2
      rw [hq] at this
      exact this
    · rw [e] at hq
      split at hq
      · omega
      · rw [Option.map_eq_none_iff] at hq
        have := h3 hq
        omega

set_option maxRecDepth 100000 in
set_option maxHeartbeats 1600000 in
theorem rSplit_any (b0 : List UInt8) (pb : Option Addr) (cb : Nat) (w : World) (hb : Bys w w.heap.size pb b0) (hl : b0.length ≤ 524288) (hcb : b0.length ≤ cb) (hpb : pb = none → cb = 0) :
    Calls Tryd.prog 12 #[.slice pb b0.length cb] w (SplPost w b0) := by
  have HB := Lib.hid (And.intro hb (And.intro hl (And.intro hcb hpb)))
  clear hb hl hcb hpb
  generalize hn : b0.length = n at *
  have HN := Lib.hid hn
  clear hn
  go_enter Tryd.func12, Tryd.ntmps12
  go_wp2_with fail
  go_loopw [0, 4] (fun bv v wr => ∃ b pb cb m, bv = .slice pb m cb ∧ b.length = m ∧ RSplAt w b0 b pb cb v wr) (fun bv _ _ => match bv with | .slice _ m _ => m | _ => 0)
  case atStart => exact ⟨b0, pb, cb, n, rfl, HN.out, [], HB.out.1, by rw [HN.out]; exact HB.out.2.2.1, HB.out.2.2.2, OutF.nil _ _, Below.refl _ _, .refl _ _⟩
  case round =>
    obtain ⟨b, pb, cb, m, rfl, hm, hat⟩ := hrel
    have hlen : b.length ≤ b0.length := by
      obtain ⟨fs, _, _, _, _, _, h6⟩ := hat
      exact h6.rest
    have HC := Lib.hid (command_any b pb cb wr (by obtain ⟨fs, h1, _, _, _, h5, _⟩ := hat; exact h1.more h5.size) (by have := HB.out.2.1; have := HN.out; omega) (by obtain ⟨fs, _, h2, _⟩ := hat; exact h2) (by obtain ⟨fs, _, _, h3, _⟩ := hat; exact h3))
    rw [hm] at HC
    have HA := Lib.hid (And.intro hat (And.intro hm hlen))
    clear hat hm hlen
    go_wp2_with fail
    refine HC.out.mono ?_
    rintro x w1 hx
    obtain ⟨lv, v', w2, hrun, ⟨rfl, hp⟩ | ⟨k, hk1, hk2, rfl, hk⟩⟩ := rspl_round HA.out.1 (by have := HB.out.2.1; have := HN.out; omega) hx
    · have HR := Lib.hid hrun
      have HP := Lib.hid hp
      rw [HA.out.2.1] at HP
      clear hrun hp hx
      go_wp2_with (at_builtin; refine wpList_append_run _ rfl (.tmp 12) (.tmp 13) _ _ rfl _ _ rfl rfl _ _ HR.out ?_)
      go_ret2
      exact HP.out
    · obtain ⟨q, hq⟩ : ∃ q, (if cb = k then pb else Option.map (fun x => x.add k) pb) = q := ⟨_, rfl⟩
      have HK := Lib.hid (hk q hq)
      have HR := Lib.hid hrun
      have hle : k ≤ m := by rw [← HA.out.2.1]; exact hk2
      have hmc : m ≤ cb := by
        obtain ⟨fs, _, h2, _⟩ := HA.out.1
        rw [← HA.out.2.1]; exact h2
      have hk0 : (k : Int) ≤ m := by omega
      have hk3 : (m : Int) ≤ cb := by omega
      have t1 : decide ((k : Int) < 0) = false := decide_eq_false (by omega)
      have HL := Lib.hid (And.intro hk1 (And.intro hle hmc))
      clear hrun hk hx hk1 hk2 hle hmc
      go_wp2_with (at_builtin; refine wpList_append_run _ rfl (.tmp 12) (.tmp 13) _ _ rfl _ _ rfl rfl _ _ HR.out ?_)
      go_roundw
      case rel => exact ⟨b.drop k, q, cb - k, m - k, rfl, by rw [List.length_drop, HA.out.2.1], HK.out⟩
      case measure =>
        obtain ⟨h1, h2, -⟩ := HL.out
        simp
        omega
end Go.Proofs.YtllboenffepcgaaDoor
namespace Go.Proofs.YtllboenffepcgaaDoor
open Go.RowKit

set_option maxRecDepth 100000 in
set_option maxHeartbeats 800000 in
theorem same1_any (k : Int) (px py : Option Addr) (d : List UInt8) (n cx cy : Nat) (hn : d.length = n) (w : World) (hx : Bys w w.heap.size px d) (hy : Bys w w.heap.size py d) (hl : n ≤ 1048576) :
    Calls Tryd.prog 21 #[.agg #[.int .i64 k, .slice px n cx], .agg #[.int .i64 k, .slice py n cy]] w fun e w' => e = .returned (.bool true) ∧ Below w.heap.size w w' := by
  subst hn
  have hb2 : Below w.heap.size w ((w.alloc (.cells #[.int .i64 k, .slice px d.length cx] 37)).alloc (.cells #[.int .i64 k, .slice py d.length cy] 51)) := ((Below.refl _ _).alloc (Nat.le_refl _) _).alloc (by rw [World.size_alloc]; omega) _
  have HE := Lib.hid (equal_any px py cx cy d d _ _ _ (hx.below hb2) (hy.below hb2) hl hl)
  rw [show decide (d = d) = true from decide_eq_true rfl] at HE
  have HB := Lib.hid hb2
  clear hb2 hx hy
  generalize d.length = n at *
  go_enter Tryd.func21, Tryd.ntmps21
  go_wp2_with fail
  refine HE.out.mono ?_
  rintro x w' ⟨rfl, hb3⟩
  have hbw := HB.out.trans (hb3.mono HB.out.size)
  have HB3 := Lib.hid hbw
  clear hb3 hbw
  go_wp2_with fail
  go_ret
  exact ⟨rfl, HB3.out⟩

/-- What the walk reads of frame k. -/
theorem OutF.elem {W : World} {ok : Nat → Prop} {v : Value} {fs : List Frm} (h : OutF W ok v fs) : ∃ pv cv, v = .slice pv fs.length cv ∧ fs.length ≤ cv ∧ ∀ k f, fs[k]? = some f → ∃ g off px cx, pv = some ⟨g, off, none⟩ ∧ g < W.heap.size ∧ W.cell? ⟨g, off + k * 2, none⟩ = some (.int .i64 f.kind) ∧ W.cell? ⟨g, off + k * 2 + 1, none⟩ = some (.slice px f.data.length cx) ∧ BysL W ok px f.data := by
  obtain ⟨xs, hb, hf, hv⟩ := h
  rcases hb.2 with ⟨rfl, h0⟩ | ⟨g, off, cap, rfl, h1, h2, h3, h4, h5⟩
  · exact ⟨none, 0, by rw [h0], by omega, fun k f hk => absurd (List.getElem?_eq_some_iff.1 hk).1 (by omega)⟩
  · refine ⟨_, cap, rfl, h3, fun k f hk => ?_⟩
    obtain ⟨hk', rfl⟩ := List.getElem?_eq_some_iff.1 hk
    obtain ⟨px, cx, e1, e2, e3⟩ := hf.at k hk'
    exact ⟨g, off, px, cx, rfl, h2, h4 _ _ e1, by have := h4 _ _ e2; rw [← Nat.add_assoc] at this; exact this, e3.keep (KeptOn.refl _ _) (fun _ _ h => h.1)⟩

set_option maxRecDepth 100000 in
set_option maxHeartbeats 1600000 in
theorem eqFunc_any (v u : Value) (fs : List Frm) (ok ok' : Nat → Prop) (w : World) (hv : OutF w ok v fs) (hu : OutF w ok' u fs) (hl : ∀ f ∈ fs, f.data.length ≤ 1048576) (hn : fs.length ≤ 1048576) :
    Calls Tryd.prog 20 #[v, u, .func (.func 21) #[] #[]] w fun e w' => e = .returned (.bool true) ∧ Below w.heap.size w w' := by
  obtain ⟨pv, cv, rfl, hcv, ev⟩ := hv.elem
  obtain ⟨pu, cu, rfl, hcu, eu⟩ := hu.elem
  have HE := Lib.hid (And.intro ev (And.intro eu hl))
  clear hv hu ev eu hl
  generalize hm : fs.length = n at *
  have HM := Lib.hid hm
  clear hm
  have hn1 : (n : Int) ≤ 1048576 := by omega
  have hcv1 : (n : Int) ≤ cv := by omega
  have hcu1 : (n : Int) ≤ cu := by omega
  go_enter Tryd.func20, Tryd.ntmps20
  go_wp2_with fail
  go_loopw [17] (fun i wr => ∃ k : Nat, k ≤ n ∧ i = .int .i64 k ∧ Below w.heap.size w wr) (fun i _ => n - (intOf i).toNat)
  case atStart => exact ⟨0, Nat.zero_le _, rfl, Below.refl _ _⟩
  case round =>
    obtain ⟨k, hk, rfl, hb⟩ := hrel
    by_cases hlt : k < n
    · have hkl : k < fs.length := by have := HM.out; omega
      obtain ⟨g, off, px, cx, rfl, hg, c0, c1, c2⟩ := HE.out.1 k _ (List.getElem?_eq_getElem hkl)
      obtain ⟨g', off', py, cy, rfl, hg', d0, d1, d2⟩ := HE.out.2.1 k _ (List.getElem?_eq_getElem hkl)
      have hdl := HE.out.2.2 _ (List.getElem_mem hkl)
      generalize fs[k].kind = kd at *
      generalize fs[k].data = d at *
      have c2 := c2.bys
      have d2 := d2.bys
      rw [← hb.cell (p := ⟨g, off + k * 2, none⟩) hg] at c0
      rw [← hb.cell (p := ⟨g, off + k * 2 + 1, none⟩) hg] at c1
      rw [← hb.cell (p := ⟨g', off' + k * 2, none⟩) hg'] at d0
      rw [← hb.cell (p := ⟨g', off' + k * 2 + 1, none⟩) hg'] at d1
      generalize hdm : d.length = m at *
      have HC := Lib.hid (fun (W : World) (hW : Below w.heap.size w W) => same1_any kd px py d m cx cy hdm W ((c2.below hW).more hW.size) ((d2.below hW).more hW.size) hdl)
      have HB := Lib.hid hb
      have hgr : g < wr.heap.size := Nat.lt_of_lt_of_le hg hb.size
      have hgr' : g' < wr.heap.size := Nat.lt_of_lt_of_le hg' hb.size
      have hk0 : (0 : Int) ≤ k := by omega
      have hk1 : (k : Int) < n := by omega
      clear hdm c2 d2 hb hdl hkl
      go_wp2_with fail
      refine (HC.out _ (by exact ((HB.out.alloc HB.out.size _).alloc (by have := HB.out.size; rw [World.size_alloc]; omega) _))).mono ?_
      rintro x w2 ⟨rfl, hb2⟩
      have hbw : Below w.heap.size w w2 := (((HB.out.alloc HB.out.size _).alloc (by have := HB.out.size; rw [World.size_alloc]; omega) _)).trans (hb2.mono (by have := HB.out.size; rw [World.size_alloc, World.size_alloc]; omega))
      have HW := Lib.hid hbw
      clear hbw hb2 c0 c1 d0 d1
      go_wp2_with fail
      go_roundw
      case rel => exact ⟨k + 1, by omega, by go_num, HW.out⟩
      case measure => simp [intOf]; omega
    · have t1 : ¬ (k : Int) < n := by omega
      have HB := Lib.hid hb
      clear hb
      go_wp2_with fail
      go_ret
      exact ⟨rfl, HB.out⟩

set_option maxRecDepth 100000 in
set_option maxHeartbeats 400000 in
theorem same_any (v u : Value) (fs : List Frm) (ok ok' : Nat → Prop) (w : World) (hv : OutF w ok v fs) (hu : OutF w ok' u fs) (hl : ∀ f ∈ fs, f.data.length ≤ 1048576) (hn : fs.length ≤ 1048576) :
    Calls Tryd.prog 13 #[v, u] w fun e w' => e = .returned (.bool true) ∧ Below w.heap.size w w' := by
  have H := Lib.hid (eqFunc_any v u fs ok ok' w hv hu hl hn)
  clear hv hu hl hn
  go_enter Tryd.func13, Tryd.ntmps13
  go_wp2_with fail
  refine H.out.mono ?_
  rintro x w' ⟨rfl, hb⟩
  have HB := Lib.hid hb
  clear hb
  go_wp2_with fail
  go_ret
  exact ⟨rfl, HB.out⟩
end Go.Proofs.YtllboenffepcgaaDoor
namespace Go.Proofs.YtllboenffepcgaaDoor
open Go.RowKit

/-- 'append(out, f)', of the program's frames. -/
theorem outp_push {W : World} {ok : Nat → Prop} {v : Value} {fs : List Frm} (h : OutF W ok v fs) (f : Frm) (pv : Option Addr) (cv : Nat) (hd : BysL W (fun k => ok k ∧ v.ownBlock ≠ some k) pv f.data) (hnew : ∀ k, W.heap.size ≤ k → ok k) (hc : fs.length ≤ 1048576) :
    ∃ v' w', (Builtin.append_ #[27, 27] 27 #[v, .slice (some ⟨W.heap.size, 0, none⟩) 1 1]).run Tryd.prog (W.alloc (.cells #[.int .i64 f.kind, .slice pv f.data.length cv] 37)) = .ok v' w' ∧ OutF w' ok v' (fs ++ [f]) ∧ (W.alloc (.cells #[.int .i64 f.kind, .slice pv f.data.length cv] 37)).grownBy w' v.ownBlock := by
  obtain ⟨xs, hbuf, hfrs, hov⟩ := h
  have hk := KeptOn.below (ok := fun k => ok k ∧ v.ownBlock ≠ some k) (W := W) ((Below.refl _ _).alloc (Nat.le_refl _) (.cells #[.int .i64 f.kind, .slice pv f.data.length cv] 37))
  obtain ⟨i0, hi, hz0, hz1, hz2⟩ := info_parts infoFrm
  obtain ⟨v', w', hrun, hb', hgr, hrw⟩ := run_append_buf (P := Tryd.prog) (W.alloc (.cells #[.int .i64 f.kind, .slice pv f.data.length cv] 37)) 27 27 37 i0 _ 2 32 Tryd.underlying27 hi hz0 hz1 hz2 rfl (by decide) 0 v fs.length xs (hbuf.past _) (some ⟨W.heap.size, 0, none⟩) 1 1 [.int .i64 f.kind, .slice pv f.data.length cv]
    ⟨rfl, fun u hu => by simp at hu; rcases hu with rfl | rfl <;> rfl, fun _ => ⟨_, rfl, fun j u hj => by
      rw [Go.WideShapes.add_plain]
      simp only [World.cell?, heap_alloc_new, Nat.zero_add]
      simpa using hj⟩⟩ (by unfold maxLen; omega) (by omega) (Nat.zero_le _)
  exact ⟨v', w', hrun, OutF.push (hfrs.keep hk (fun _ _ h => h)) hov (Frs.one (cv := cv) (hd.keep hk (fun _ _ h => h))) hb' hgr hrw (fun k hk => hnew k (by rw [World.size_alloc] at hk; omega)), hgr⟩
/-- Between two rounds of drain: m frames have come. -/
def DrnAt (w : World) (s : Nat) (r : Option Nat) (b : List UInt8) (p m : Nat) (v : Value) (r' : Option Nat) (b' : List UInt8) (p' : Nat) (wr : World) : Prop :=
  ∃ fs, fs.length = m ∧ Run b p fs b' p' ∧ Spl wr s r' b' p' ∧ OutF wr (fun k => w.heap.size ≤ k ∧ r' ≠ some k) v fs ∧ w.grownBy wr (some s) ∧ (∀ g, r' = some g → r = some g ∨ w.heap.size ≤ g) ∧ s < w.heap.size
/-- What drain hands back. -/
def DrnPost (w : World) (s : Nat) (r : Option Nat) (b : List UInt8) (p : Nat) (x : Ending) (w' : World) : Prop :=
  ∃ v m r' b' p', x = .returned v ∧ DrnAt w s r b p m v r' b' p' w' ∧ stepF b' p' = .wait
theorem DrnAt.alloc {w wr : World} {s p m p' : Nat} {r r' : Option Nat} {b b' : List UInt8} {v : Value} (h : DrnAt w s r b p m v r' b' p' wr) (o : Obj) : DrnAt w s r b p m v r' b' p' (wr.alloc o) := by
  obtain ⟨fs, h1, h2, h3, h4, h5, h6, h7⟩ := h
  have hb : Below wr.heap.size wr (wr.alloc o) := (Below.refl _ _).alloc (Nat.le_refl _) _
  exact ⟨fs, h1, h2, h3.below hb, h4.keep (KeptOn.below hb) (fun _ _ h => h), grown_trans h5 (grown_of_below hb _), h6, h7⟩
/-- One call of Next in drain. -/
def DrnNx (w : World) (s : Nat) (r : Option Nat) (b : List UInt8) (p m : Nat) (v : Value) (x : Ending) (w2 : World) : Prop :=
  (x = .returned (.tuple #[.agg #[.int .i64 0, .slice none 0 0], .bool false]) ∧ DrnPost w s r b p (.returned v) (w2.alloc (.cells #[.int .i64 0, .slice none 0 0] 37))) ∨
  ∃ kd pv n cv v' w3 r' b' p', x = .returned (.tuple #[.agg #[.int .i64 kd, .slice pv n cv], .bool true]) ∧
    (Builtin.append_ #[27, 27] 27 #[v, .slice (some ⟨w2.heap.size + 1, 0, none⟩) 1 1]).run Tryd.prog ((w2.alloc (.cells #[.int .i64 kd, .slice pv n cv] 37)).alloc (.cells #[.int .i64 kd, .slice pv n cv] 37)) = .ok v' w3 ∧ DrnAt w s r b p (m + 1) v' r' b' p' w3
theorem drn_nx {w wr w2 : World} {s p m p' : Nat} {r r' : Option Nat} {b b' : List UInt8} {v : Value} {x : Ending} (h : DrnAt w s r b p m v r' b' p' wr) (hl : b.length ≤ 1048576) (hx : NxPost wr s r' b' (stepF b' p') p' x w2) : DrnNx w s r b p m v x w2 := by
  obtain ⟨fs, h1, h2, h3, h4, h5, h6, h7⟩ := h
  have hcnt := h2.count
  obtain ⟨hg, hn⟩ := hx
  have hok : ∀ k, (some s : Option Nat) = some k → ¬ (w.heap.size ≤ k ∧ r' ≠ some k) := fun k e => by injection e with e; subst e; rintro ⟨h, _⟩; omega
  have hov := h4.own_lt'
  have hsz := h5.size
  have hsz2 := hg.size
  -- a frame has come
  have key : ∀ (f : Frm) (pv : Option Addr) (cv : Nat) (r2 : Option Nat) (b2 : List UInt8) (p2 : Nat), Run b' p' [f] b2 p2 → Spl w2 s r2 b2 p2 → BysL w2 (fun g => wr.heap.size ≤ g ∧ r2 ≠ some g) pv f.data → (∀ g, r2 = some g → r' = some g ∨ wr.heap.size ≤ g) →
      ∃ v' w3, (Builtin.append_ #[27, 27] 27 #[v, .slice (some ⟨w2.heap.size + 1, 0, none⟩) 1 1]).run Tryd.prog ((w2.alloc (.cells #[.int .i64 f.kind, .slice pv f.data.length cv] 37)).alloc (.cells #[.int .i64 f.kind, .slice pv f.data.length cv] 37)) = .ok v' w3 ∧ DrnAt w s r b p (m + 1) v' r2 b2 p2 w3 := by
    intro f pv cv r2 b2 p2 hr hs hb hr2
    have h4' : OutF w2 (fun k => w.heap.size ≤ k ∧ r2 ≠ some k) v fs := h4.keep (KeptOn.grown hg hok) (fun k hk ho => ⟨ho.1, fun e => by
      rcases hr2 k e with e2 | e2
      · exact ho.2 e2
      · omega⟩)
    have hb1 : Below w2.heap.size w2 (w2.alloc (.cells #[.int .i64 f.kind, .slice pv f.data.length cv] 37)) := (Below.refl _ _).alloc (Nat.le_refl _) _
    have hrow := fun g (e : r2 = some g) => hs.row e
    obtain ⟨v', w3, hrun, hout, hgr⟩ := outp_push (h4'.keep (KeptOn.below hb1) (fun _ _ h => h)) f pv cv (hb.keep (KeptOn.below hb1) (fun k hk ho => ⟨⟨by omega, ho.2⟩, fun e => by have := hov k e; omega⟩)) (fun k hk => by
      rw [World.size_alloc] at hk
      exact ⟨by omega, fun e => by have := (hrow k e).1; omega⟩) (by omega)
    rw [World.size_alloc] at hrun
    have hb2 : Below w2.heap.size w2 ((w2.alloc (.cells #[.int .i64 f.kind, .slice pv f.data.length cv] 37)).alloc (.cells #[.int .i64 f.kind, .slice pv f.data.length cv] 37)) := hb1.alloc hb1.size _
    have hvs : ∀ k, v.ownBlock = some k → w.heap.size ≤ k ∧ r2 ≠ some k := fun k e => by
      obtain ⟨_, _, _, ho⟩ := h4'
      exact ho k e
    refine ⟨v', w3, hrun, fs ++ [f], by simp [h1], h2.trans hr, (hs.below hb2).kept hgr (fun e => by have := (hvs s e.symm).1; omega) (fun g e e2 => (hvs g e2.symm).2 e), hout, ?_, fun g e => ?_, h7⟩
    · have hg3 := grown_trans (grown_trans h5 hg) (grown_of_below hb2 (some s))
      exact ⟨hgr.os.trans hg3.os, hgr.tape.trans hg3.tape, hgr.output.trans hg3.output, Nat.le_trans hg3.size hgr.size, fun k hk hne => (hgr.block k (Nat.lt_of_lt_of_le hk hg3.size) (fun e => by have := (hvs k e.symm).1; omega)).trans (hg3.block k hk hne)⟩
    · rcases hr2 g e with e2 | e2
      · exact h6 g e2
      · exact .inr (by omega)
  cases hs : stepF b' p' with
  | wait =>
    rw [hs] at hn
    refine .inl ⟨hn.1, v, m, r', b', p', rfl, DrnAt.alloc ⟨fs, h1, h2, hn.2, h4.keep (KeptOn.grown hg hok) (fun _ _ h => h), grown_trans h5 hg, h6, h7⟩ _, hs⟩
  | ready a n =>
    rw [hs] at hn
    obtain ⟨v', w3, k1, k2⟩ := key ⟨2, []⟩ none 0 r' b' (a + n) (Run.one_ready hs) hn.2 (BysL.nil _ _ _) (fun g e => .inl e)
    exact .inr ⟨2, none, 0, 0, v', w3, r', b', a + n, hn.1, k1, k2⟩
  | done f k =>
    rw [hs] at hn
    obtain ⟨pv, c, r2, rfl, e1, e2, e3⟩ := hn
    obtain ⟨v', w3, k1, k2⟩ := key f pv c r2 _ 0 (Run.one_done hs) e2 e1 (fun g e => .inr (e3 g e))
    exact .inr ⟨f.kind, pv, f.data.length, c, v', w3, r2, _, 0, rfl, k1, k2⟩

set_option maxRecDepth 100000 in
set_option maxHeartbeats 1600000 in
theorem drain_any (w0 : World) (s : Nat) (r : Option Nat) (b : List UInt8) (p most : Nat) (w : World) (h : Spl w s r b p) (hl : b.length ≤ 524288) (hm : b.length < most) (hm2 : most ≤ 1048576) (hL : Low w0 w s) :
    Calls Tryd.prog 11 #[.pointer (some ⟨s, 0, none⟩), .int .i64 most] w (DrnPost w s r b p) := by
  have hm1 : (most : Int) ≤ 1048576 := by omega
  have HL := Lib.hid (And.intro hL (And.intro hl (And.intro hm h)))
  clear hL hl hm h
  go_enter Tryd.func11, Tryd.ntmps11
  go_wp2_with fail
  go_loopw [5, 9] (fun v i wr => ∃ (m : Nat) (r' : Option Nat) (b' : List UInt8) (p' : Nat), i = .int .i64 m ∧ DrnAt w s r b p m v r' b' p' wr) (fun _ i _ => most - (intOf i).toNat)
  case atStart => exact ⟨0, r, b, p, rfl, [], rfl, .refl _ _, HL.out.2.2.2, OutF.nil _ _, World.grownBy.refl _ _, fun g e => .inl e, HL.out.2.2.2.lt⟩
  case round =>
    obtain ⟨m, r', b', p', rfl, hat⟩ := hrel
    have hlt : m < most := by
      obtain ⟨fs, h1, h2, _⟩ := hat
      have := h2.count
      have := HL.out.2.2.1
      omega
    obtain ⟨fs, h1, h2, h3, h4, h5, h6, h7⟩ := id hat
    have hlb := h2.rest
    have HN := Lib.hid ((next_any w0 s r' b' p' wr h3 (by have := HL.out.2.1; omega) (HL.out.1.grown h5)).mono (fun x w2 hx => drn_nx hat (by have := HL.out.2.1; omega) hx))
    have HA := Lib.hid hat
    have hlt1 : (m : Int) < most := by omega
    clear hat hlb h1 h2 h3 h4 h5 h6 h7
    go_wp2_with fail
    refine HN.out.mono ?_
    rintro x w2 (⟨rfl, hp⟩ | ⟨kd, pv, n, cv, v', w3, r2, b2, p2, rfl, hrun, hd⟩)
    · have HP := Lib.hid hp
      clear hp
      go_wp2_with fail
      go_ret
      exact HP.out
    · have HR := Lib.hid hrun
      have HD := Lib.hid hd
      clear hrun hd
      go_wp2_with (at_builtin; refine wpList_append_run _ rfl (.tmp 19) (.tmp 21) _ _ rfl _ _ rfl rfl _ _ HR.out ?_)
      go_roundw
      case rel => exact ⟨m + 1, r2, b2, p2, by go_num, HD.out⟩
      case measure => simp [intOf]; omega
end Go.Proofs.YtllboenffepcgaaDoor
namespace Go.Proofs.YtllboenffepcgaaDoor
open Go.RowKit

def exB : List UInt8 := [97, 32, 78, 79, 79, 80, 13, 10, 97, 32, 88, 32, 123, 49, 125, 13, 10, 98, 13, 10, 99]
def exC : List UInt8 := [97, 32, 88, 32, 123, 49, 125, 13, 10, 98, 13, 10, 99]
theorem ex_run : Run exB 0 [⟨1, [97, 32, 78, 79, 79, 80]⟩, ⟨2, []⟩, ⟨1, [97, 32, 88, 32, 123, 49, 125, 13, 10, 98]⟩] [99] 0 ∧ stepF [99] 0 = .wait := by
  refine ⟨.done (b := exB) (k := 8) (stepF_cmd (e := 6) (by decide) (by decide) (by decide +kernel)) ?_, stepF_none (by decide)⟩
  refine .ready (b := exC) (a := 9) (n := 1) (stepF_lit (e := 7) (by decide) (by decide) (by decide +kernel) (by decide)) ?_
  exact .done (b := exC) (k := 12) (stepF_cmd (e := 10) (by decide) (by decide) (by decide +kernel)) (.refl _ _)
/-- Where Split ends is known by any run that ends. -/
theorem spl_at {w w' : World} {b0 b' : List UInt8} {fs : List Frm} {p' : Nat} {x : Ending} (h : SplPost w b0 x w') (hr : Run b0 0 fs b' p') (hw : stepF b' p' = .wait) : ∃ v, x = .returned (.tuple #[v, .int .i64 (b'.length : Nat)]) ∧ OutF w' (fun k => w.heap.size ≤ k) v fs ∧ Below w.heap.size w w' := by
  obtain ⟨v, fs2, b2, p2, rfl, h1, h2, h3, h4⟩ := h
  obtain ⟨rfl, rfl, rfl⟩ := h2.same hr h3 hw
  exact ⟨v, rfl, h1, h4⟩
/-- 'string(f.Data)'. -/
theorem conv_frm {W : World} {ok : Nat → Prop} {p : Option Addr} {l : List UInt8} (h : BysL W ok p l) (c m : Nat) (hm : l.length = m) : (convert 26 9 (.slice p m c)).run Tryd.prog W = .ok (.string ⟨l.toArray⟩) W := by
  subst hm
  exact conv_bys (P := Tryd.prog) h.bys c Tryd.underlying26 Tryd.underlying5 Tryd.underlying9

set_option maxRecDepth 100000 in
set_option maxHeartbeats 1600000 in
theorem alive05_walk (w : World) (hS : Std w) (hM : StdM w) : Calls Tryd.prog 8 #[] w fun e w' => e = .returned (.bool true) ∧ Below w.heap.size w w' := by
  have kc := fun (w : World) (C : Array Value) (n c : Nat) => Lib.run_convert_bytes_const (P := Tryd.prog) w 26 5 C n c Tryd.underlying26 Tryd.underlying5
  have hb1 : Below w.heap.size w (w.alloc (.cells (Lib.byteCells exB).toArray 5 (21, 22))) := (Below.refl _ _).alloc (Nat.le_refl _) _
  have H1 := Lib.hid ((split_any exB (some ⟨w.heap.size, 0, none⟩) 21 _ (const_bys w exB (21, 22)) (by decide) (hS.below hb1) (hM.below hb1)).mono fun x w' h => spl_at h ex_run.1 ex_run.2)
  have HB := Lib.hid hb1
  clear hb1 hS hM
  go_enter Tryd.func8, Tryd.ntmps8
  go_wp2_with fail
  refine H1.out.mono ?_
  rintro x w1 ⟨v, rfl, hout, hb1⟩
  have hbw := HB.out.trans (hb1.mono HB.out.size)
  obtain ⟨pv, cv, rfl, hcv, hel⟩ := hout.elem
  obtain ⟨g, off, p0, k0, rfl, hg, c00, c01, d0⟩ := hel 0 _ rfl
  obtain ⟨g', off', p1, k1, e1, -, c10, c11, d1⟩ := hel 1 _ rfl
  obtain ⟨g2, off2, p2, k2, e2, -, c20, c21, d2⟩ := hel 2 _ rfl
  injection e1 with e1
  injection e1 with e1 e1'
  injection e2 with e2
  injection e2 with e2 e2'
  subst e1 e1' e2 e2'
  have HV0 := Lib.hid (conv_frm d0 k0 6 rfl)
  have HV2 := Lib.hid (conv_frm d2 k2 10 rfl)
  have HW := Lib.hid hbw
  simp only [Nat.zero_mul, Nat.add_zero, Nat.one_mul, List.length_cons, List.length_nil, Nat.reduceMul, Nat.reduceAdd] at c00 c01 c10 c11 c20 c21 hcv
  clear hout hb1 hbw hel d0 d1 d2
  go_wp2_with fail
  rw [HV0.out]
  simp only [Result.andThen]
  rw [Oper.upon_value]
  go_wp2_with fail
  rw [HV2.out]
  simp only [Result.andThen]
  rw [Oper.upon_value]
  go_wp2_with fail
  go_ret
  exact ⟨rfl, HW.out⟩
end Go.Proofs.YtllboenffepcgaaDoor
namespace Go.Proofs.YtllboenffepcgaaDoor
open Go.RowKit

theorem grow_run (w : World) (n : Nat) (h0 : 0 < n) (hn : n ≤ 1048576) :
    ∃ g cap w', (Builtin.append_ #[26, 3] 26 #[.slice none 0 0, .int .i64 n]).run Tryd.prog w = .ok (.slice (some ⟨g, 0, none⟩) n cap) w' ∧ n ≤ cap ∧ Buf w' w.heap.size 1 (.slice (some ⟨g, 0, none⟩) 0 cap) 0 [] ∧ Below w.heap.size w w' := by
  obtain ⟨i0, hi, hz0, hz1, hz2⟩ := info_parts infoU8
  have hrun := Lib.run_append_nil_zeros (P := Tryd.prog) w 26 3 26 5 i0 (.int .u8 0) .i64 .i64 Tryd.underlying26 Tryd.underlying3 hi hz0 n h0 (by rw [hz1]; decide) (by omega) (by rw [hz2]; omega)
  have hge := grownCap_ge w n 0 5
  refine ⟨_, _, _, hrun, hge, ?_, Below.alloc (Below.drew (Below.refl _ _)) (Nat.le_refl _) _⟩
  have hh := heap_alloc_new w.drew (.cells (Builtin.zeroCells (Value.int .u8 0).cells n ++ Builtin.zeroCells (Value.int .u8 0).cells (grownCap w n 0 5 - n)) 5)
  have hsz : (Builtin.zeroCells (Value.int .u8 0).cells n ++ Builtin.zeroCells (Value.int .u8 0).cells (grownCap w n 0 5 - n)).size = grownCap w n 0 5 := by
    simp [Builtin.zeroCells, Value.cells]; omega
  refine ⟨rfl, .inr ⟨_, 0, _, rfl, Nat.le_refl _, by rw [World.size_alloc]; show w.heap.size < w.heap.size + 1; omega, Nat.zero_le _, fun j u hj => by simp at hj, fun j hj => ?_⟩⟩
  have hh' : (w.drew.alloc (.cells (Builtin.zeroCells (Value.int .u8 0).cells n ++ Builtin.zeroCells (Value.int .u8 0).cells (grownCap w n 0 5 - n)) 5)).heap[w.heap.size]? = _ := hh
  refine ⟨?_, ?_⟩
  · simp only [World.cell?, hh', Nat.zero_add]
    rw [Array.getElem?_eq_getElem (by rw [hsz]; omega)]; rfl
  · simp only [World.frozen?, hh', Nat.zero_add]
    simp

set_option maxRecDepth 100000 in
theorem grow_any (n : Nat) (hn : n ≤ 1048576) (w : World) :
    Calls Tryd.prog 28 #[.slice none 0 0, .int .i64 n] w fun e w' => ∃ v, e = .returned v ∧ Buf w' w.heap.size 1 v 0 [] ∧ Below w.heap.size w w' := by
  by_cases h0 : 0 < n
  · obtain ⟨g, cap, w', hrun, hc, hbuf, hb⟩ := grow_run w n h0 hn
    have HR := Lib.hid hrun
    have HB := Lib.hid hbuf
    have hi0 : (0 : Int) < n := by omega
    have hi1 : (n : Int) ≤ 1048576 := by omega
    clear hrun hbuf
    go_enter Tryd.func28, Tryd.ntmps28
    go_wp2_with (at_builtin; refine wpList_append_run _ rfl (.tmp 20) (.tmp 21) _ _ rfl _ _ rfl rfl _ _ HR.out ?_)
    go_ret
    exact ⟨_, rfl, HB.out, hb⟩
  · obtain rfl : n = 0 := by omega
    go_enter Tryd.func28, Tryd.ntmps28
    go_wp2_with fail
    go_ret
    exact ⟨_, rfl, Buf.nil _ _ _, Below.refl _ _⟩

/-- The bytes of the first k parts. -/
def flat (L : List (List UInt8)) (k : Nat) : List UInt8 := (L.take k).flatten
theorem flat_next {L : List (List UInt8)} {k : Nat} (h : k < L.length) : flat L (k + 1) = flat L k ++ L[k] := by
  unfold flat; rw [List.take_succ_eq_append_getElem h, List.flatten_append]; simp
theorem flat_le (L : List (List UInt8)) (k : Nat) : (flat L k).length ≤ L.flatten.length := by
  conv => rhs; rw [← List.take_append_drop k L, List.flatten_append, List.length_append]
  unfold flat; omega
theorem flat_all (L : List (List UInt8)) (k : Nat) (h : L.length ≤ k) : flat L k = L.flatten := by unfold flat; rw [List.take_of_length_le h]

set_option maxRecDepth 100000 in
set_option maxHeartbeats 1600000 in
theorem concat_any (b off cap : Nat) (L : List (List UInt8)) (w : World) (hL : L.flatten.length ≤ 1048576) (hm : L.length ≤ 1048576) (hb0 : 0 < L.length)
    (hc : ∀ k (hk : k < L.length), ∃ p c, w.cell? ⟨b, off + k, none⟩ = some (.slice p L[k].length c) ∧ b < w.heap.size ∧ Bys w w.heap.size p L[k]) :
    Calls Tryd.prog 17 #[.slice (some ⟨b, off, none⟩) L.length cap] w (RetB w L.flatten) := by
  have HC := Lib.hid hc
  have HL := Lib.hid hL
  have HN : Hid (∀ k (hk : k < L.length), ∃ l, L[k] = l ∧ flat L (k + 1) = flat L k ++ l ∧ (flat L k).length + l.length ≤ 1048576) := Lib.hid fun k hk =>
    ⟨_, rfl, flat_next hk, by have := flat_le L (k + 1); rw [flat_next hk, List.length_append] at this; omega⟩
  have HZ : Hid (flat L L.length = L.flatten) := Lib.hid (flat_all L _ (Nat.le_refl _))
  have hF : ∀ k, Hid ((flat L k).length ≤ 1048576) := fun k => Lib.hid (by have := flat_le L k; omega)
  obtain ⟨m, hmm⟩ : ∃ m, m = L.length := ⟨_, rfl⟩
  rw [← hmm]
  have HM := Lib.hid hmm
  have hm1 : m ≤ 1048576 := by omega
  clear hc hL hm hmm hb0
  go_enter Tryd.func17, Tryd.ntmps17
  go_wp2_with fail
  go_loop [3, 11] (fun s i => ∃ k : Nat, k ≤ m ∧ i = .int .i64 (k : Int) ∧ s = .int .i64 ((flat L k).length : Int)) (fun _ i => m - (intOf i).toNat)
  case atStart => exact ⟨0, Nat.zero_le _, rfl, rfl⟩
  case round =>
    obtain ⟨k, hk, rfl, rfl⟩ := hrel
    by_cases hlt : k < m
    · obtain ⟨p, c, hcell, hbw, _⟩ := HC.out k (by have := HM.out; omega)
      obtain ⟨l, hl, hfl, hsz⟩ := HN.out k (by have := HM.out; omega)
      rw [hl] at hcell
      have e1 : ((flat L k).length : Int) + (l.length : Int) = ((flat L (k + 1)).length : Int) := by rw [hfl, List.length_append]; omega
      have HE := Lib.hid e1
      have hi0 : (0 : Int) ≤ k := by omega
      have hi1 : (k : Int) < m := by omega
      clear hl hfl e1
      generalize (flat L k).length = x at *
      generalize l.length = z at *
      have hx : (x : Int) + z ≤ 1048576 := by omega
      have hx0 : (0 : Int) ≤ (x : Int) + z := by omega
      go_wp2_with fail
      go_round
      case rel => exact ⟨k + 1, by omega, by go_num, by rw [← HE.out]⟩
      case measure => simp [intOf]; omega
    · have hkm : k = m := by omega
      subst hkm
      have e2 : flat L k = L.flatten := by rw [HM.out]; exact HZ.out
      rw [e2]
      have HG := Lib.hid (fun w => grow_any L.flatten.length HL.out w)
      generalize hnn : L.flatten.length = n at HG
      go_wp2_with fail
      refine (HG.out w).mono ?_
      rintro e w1 ⟨v, rfl, hbuf, hb1⟩
      go_wp2_with fail
      go_loopw [6, 27] (fun v i wr => ∃ j : Nat, j ≤ k ∧ i = .int .i64 (j : Int) ∧ Buf wr w.heap.size 1 v (flat L j).length (Lib.byteCells (flat L j)) ∧ Below w.heap.size w wr) (fun _ i _ => k - (intOf i).toNat)
      case atStart => exact ⟨0, Nat.zero_le _, rfl, hbuf, hb1⟩
      case round =>
        obtain ⟨j, hj, rfl, hbuf, hb2⟩ := hrel
        by_cases hlt : j < k
        · obtain ⟨p, c, hcell, hbw, hbys⟩ := HC.out j (by have := HM.out; omega)
          obtain ⟨l, hl, hfl, hsz⟩ := HN.out j (by have := HM.out; omega)
          rw [hl] at hcell hbys
          obtain ⟨i0, hi, hz0, hz1, hz2⟩ := info_parts infoU8
          obtain ⟨v2, w2, hrun2, hbuf2, hgr, _⟩ := run_append_buf (P := Tryd.prog) wr 26 26 5 i0 (.int .u8 0) 1 1 Tryd.underlying26 hi hz0 hz1 hz2 rfl (by decide) w.heap.size _ (flat L j).length _ hbuf p l.length c _ (src_bys (hbys.below hb2)) (by unfold maxLen; omega) (by omega) hb2.size
          rw [← byteCells_app, ← hfl] at hbuf2
          rw [← List.length_append, ← hfl] at hbuf2
          have hb3 : Below w.heap.size w w2 := hb2.grown hgr hb2.size (fun q hq => by
            rcases hbuf.2 with ⟨rfl, _⟩ | ⟨g, off, c, rfl, hg, _⟩
            · simp [Value.ownBlock] at hq
            · simp only [Value.ownBlock, Option.some.injEq] at hq; omega)
          have hcw : wr.cell? ⟨b, off + j, none⟩ = some (.slice p l.length c) := by rw [hb2.cell (by exact hbw)]; exact hcell
          have HR2 := Lib.hid hrun2
          have HB2 := Lib.hid hbuf2
          have HB3 := Lib.hid hb3
          have hi0 : (0 : Int) ≤ j := by omega
          have hi1 : (j : Int) < k := by omega
          clear hrun2 hbuf2 hb3 hgr hbuf hl hfl hsz hcell hbys hi hb2 hbw
          generalize l.length = z at *
          go_wp2_with (at_builtin; refine wpList_append_run _ rfl (.tmp 31) (.tmp 32) _ _ rfl _ _ rfl rfl _ _ HR2.out ?_)
          go_roundw
          case rel => exact ⟨j + 1, by omega, by go_num, HB2.out, HB3.out⟩
          case measure => simp [intOf]; omega
        · have hjk : j = k := by omega
          subst hjk
          rw [e2] at hbuf
          have HB := Lib.hid hbuf
          have HB2 := Lib.hid hb2
          clear hbuf hb2
          go_wp2_with fail
          go_ret
          exact ⟨_, rfl, HB.out, HB2.out⟩

theorem concat2 (w : World) (p q : Option Addr) (c d : Nat) (l m : List UInt8) (hp : Bys w w.heap.size p l) (hq : Bys w w.heap.size q m) (hl : l.length + m.length ≤ 1048576) :
    Calls Tryd.prog 17 #[.slice (some ⟨w.heap.size, 0, none⟩) 2 2] (w.alloc (.cells #[.slice p l.length c, .slice q m.length d] 26)) (RetB (w.alloc (.cells #[.slice p l.length c, .slice q m.length d] 26)) (l ++ m)) := by
  have hh := heap_alloc_new w (.cells #[.slice p l.length c, .slice q m.length d] 26)
  have hs : (w.alloc (.cells #[.slice p l.length c, .slice q m.length d] 26)).heap.size = w.heap.size + 1 := World.size_alloc _ _
  have hb : Below w.heap.size w (w.alloc (.cells #[.slice p l.length c, .slice q m.length d] 26)) := (Below.refl _ _).alloc (Nat.le_refl _) _
  have h := concat_any w.heap.size 0 2 [l, m] (w.alloc (.cells #[.slice p l.length c, .slice q m.length d] 26)) (by simp; omega) (by simp) (by simp) (fun k hk => by
    match k, hk with
    | 0, _ => exact ⟨p, c, by simp only [World.cell?, hh]; rfl, by omega, (hp.below hb).more (by omega)⟩
    | 1, _ => exact ⟨q, d, by simp only [World.cell?, hh]; rfl, by omega, (hq.below hb).more (by omega)⟩)
  rw [show [l, m].flatten = l ++ m by simp] at h
  exact h
theorem concat3 (w : World) (p q r : Option Addr) (c d f : Nat) (l m k : List UInt8) (hp : Bys w w.heap.size p l) (hq : Bys w w.heap.size q m) (hr : Bys w w.heap.size r k) (hl : l.length + m.length + k.length ≤ 1048576) :
    Calls Tryd.prog 17 #[.slice (some ⟨w.heap.size, 0, none⟩) 3 3] (w.alloc (.cells #[.slice p l.length c, .slice q m.length d, .slice r k.length f] 26)) (RetB (w.alloc (.cells #[.slice p l.length c, .slice q m.length d, .slice r k.length f] 26)) (l ++ (m ++ k))) := by
  have hh := heap_alloc_new w (.cells #[.slice p l.length c, .slice q m.length d, .slice r k.length f] 26)
  have hs : (w.alloc (.cells #[.slice p l.length c, .slice q m.length d, .slice r k.length f] 26)).heap.size = w.heap.size + 1 := World.size_alloc _ _
  have hb : Below w.heap.size w (w.alloc (.cells #[.slice p l.length c, .slice q m.length d, .slice r k.length f] 26)) := (Below.refl _ _).alloc (Nat.le_refl _) _
  have h := concat_any w.heap.size 0 3 [l, m, k] (w.alloc (.cells #[.slice p l.length c, .slice q m.length d, .slice r k.length f] 26)) (by simp; omega) (by simp) (by simp) (fun j hj => by
    match j, hj with
    | 0, _ => exact ⟨p, c, by simp only [World.cell?, hh]; rfl, by omega, (hp.below hb).more (by omega)⟩
    | 1, _ => exact ⟨q, d, by simp only [World.cell?, hh]; rfl, by omega, (hq.below hb).more (by omega)⟩
    | 2, _ => exact ⟨r, f, by simp only [World.cell?, hh]; rfl, by omega, (hr.below hb).more (by omega)⟩)
  rw [show [l, m, k].flatten = l ++ (m ++ k) by simp] at h
  exact h
end Go.Proofs.YtllboenffepcgaaDoor
