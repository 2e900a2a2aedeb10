/- The law FrameFeeds: what holds between two parts, and what each step makes of it. -/
import Derived.Test.YtllboenffepcgaaDoorLawFrm1
set_option linter.unusedVariables false
set_option linter.unusedSimpArgs false
namespace Go.Proofs.YtllboenffepcgaaDoor
open Go.RowKit

/-- 'got = append(got, l...)', of the program's frames. -/
theorem outp_append {W : World} {ok ok2 : Nat → Prop} {v lv : Value} {fs gs : List Frm} (h : OutF W ok v fs) (hl : OutF W ok2 lv gs) (hap : ∀ k, k < W.heap.size → ok2 k → ok k ∧ v.ownBlock ≠ some k) (hnew : ∀ k, W.heap.size ≤ k → ok k) (hc : fs.length + gs.length ≤ 1048576) :
    ∃ v' w', (Builtin.append_ #[27, 27] 27 #[v, lv]).run Tryd.prog W = .ok v' w' ∧ OutF w' ok v' (fs ++ gs) ∧ W.grownBy w' v.ownBlock := by
  obtain ⟨xs, hbuf, hfrs, hov⟩ := h
  obtain ⟨ys, hbuf2, hfrs2, hov2⟩ := hl
  obtain ⟨A, cap, rfl, -, hsrc⟩ := hbuf2.src hfrs2.cells
  obtain ⟨i0, hi, hz0, hz1, hz2⟩ := info_parts infoFrm
  obtain ⟨v', w', hrun, hb', hgr, hrw⟩ := run_append_buf (P := Tryd.prog) W 27 27 37 i0 _ 2 32 Tryd.underlying27 hi hz0 hz1 hz2 rfl (by decide) 0 v fs.length xs hbuf A gs.length cap ys hsrc (by unfold maxLen; omega) (by omega) (Nat.zero_le _)
  exact ⟨v', w', hrun, OutF.push hfrs hov (hfrs2.keep (KeptOn.refl _ _) (fun k hk h => hap k hk h.1)) hb' hgr hrw hnew, hgr⟩
def okG (lo s : Nat) (r : Option Nat) (av : Value) (k : Nat) : Prop := lo ≤ k ∧ k ≠ s ∧ r ≠ some k ∧ av.ownBlock ≠ some k
/-- The state of the law: the splitter s, the bytes A in av, the frames fs in gv. -/
structure FF (w : World) (s : Nat) (W : World) (av : Value) (A : List UInt8) (gv : Value) (fs : List Frm) (r : Option Nat) (b : List UInt8) (p : Nat) : Prop where
  below : Below w.heap.size w W
  ls : w.heap.size ≤ s
  spl : Spl W s r b p
  lr : ∀ g, r = some g → w.heap.size ≤ g
  all : Buf W w.heap.size 1 av A.length (Lib.byteCells A)
  alo : ∀ k, av.ownBlock = some k → w.heap.size ≤ k ∧ k ≠ s ∧ r ≠ some k
  got : OutF W (okG w.heap.size s r av) gv fs
section
variable {w : World} {s : Nat} {W W' : World} {av gv : Value} {A b : List UInt8} {fs : List Frm} {r : Option Nat} {p : Nat}
theorem FF.keep (h : FF w s W av A gv fs r b p) (hb : Below W.heap.size W W') : FF w s W' av A gv fs r b p := by
  obtain ⟨h1, h2, h3, h4, h5, h6, h7⟩ := h
  exact ⟨bcall h1 hb, h2, h3.below hb, h4, h5.below hb (Nat.le_refl _), h6, h7.keep (KeptOn.below hb) (fun _ _ h => h)⟩
/-- Only blocks from lo on, below hi, may have turned. -/
def Apart (lo hi : Nat) (W W' : World) : Prop := W.heap.size ≤ W'.heap.size ∧ (∀ k, k < W.heap.size → ¬ (lo ≤ k ∧ k < hi) → W'.heap[k]? = W.heap[k]?) ∧ W'.os = W.os ∧ W'.tape = W.tape ∧ W'.output = W.output
theorem Apart.refl (lo hi : Nat) (W : World) : Apart lo hi W W := ⟨Nat.le_refl _, fun _ _ _ => rfl, rfl, rfl, rfl⟩
theorem Apart.put {lo hi g : Nat} (h : Apart lo hi W W') (h1 : lo ≤ g) (h2 : g < hi) (o : Nat) (v : Value) : Apart lo hi W (W'.setCell ⟨g, o, none⟩ v) :=
  ⟨by rw [setCell_size']; exact h.1, fun k hk ho => (Below.heap_setCell W' ⟨g, o, none⟩ v k (by rintro rfl; exact ho ⟨h1, h2⟩)).trans (h.2.1 k hk ho), h.2.2⟩
theorem FF.apart {lo hi : Nat} (h : FF w s W av A gv fs r b p) (hb : Apart lo hi W W') (hlo : w.heap.size ≤ lo) (hs : s < lo) (hr : ∀ g, r = some g → g < lo ∨ hi ≤ g) (ha : ∀ k, av.ownBlock = some k → k < lo) (hg : OutF W (fun k => k < lo) gv fs) : FF w s W' av A gv fs r b p := by
  obtain ⟨h1, h2, h3, h4, h5, h6, h7⟩ := h
  have hB : Below w.heap.size w W' := ⟨hb.2.2.1.trans h1.os, hb.2.2.2.1.trans h1.tape, hb.2.2.2.2.trans h1.output, Nat.le_trans h1.size hb.1, fun k hk => (hb.2.1 k (Nat.lt_of_lt_of_le hk h1.size) (by omega)).trans (h1.block k hk)⟩
  obtain ⟨v, a, k, e, g1, g2, g3, g4⟩ := h3
  have hs1 := g1.lt
  refine ⟨hB, h2, ⟨v, a, k, e, (hb.2.1 s hs1 (by omega)).trans g1, g2.kept hb.1 (fun k hk he => hb.2.1 k hk (by have := hr k (by rw [← g3]; exact he); omega)), g3, g4⟩, h4, h5.kept hb.1 (fun k hk he => hb.2.1 k hk (by have := ha k he; omega)), h6, ?_⟩
  obtain ⟨xs, q1, q2, q3⟩ := h7
  obtain ⟨ys, q4, q5, q6⟩ := hg
  have hxy : xs = ys := by
    rcases q1.2 with ⟨e1, e2⟩ | ⟨g, off, cap, e1, _, _, _, c1, _⟩
    · have := q1.1
      have := q4.1
      rw [List.eq_nil_of_length_eq_zero (l := xs) (by omega), List.eq_nil_of_length_eq_zero (l := ys) (by omega)]
    · rcases q4.2 with ⟨e2, _⟩ | ⟨g', off', cap', e2, _, _, _, c2, _⟩
      · rw [e1] at e2; cases e2
      · rw [e1] at e2
        injection e2 with e3 e4 e5
        injection e3 with e3
        injection e3 with e3 e6
        subst e3 e6
        refine List.ext_getElem? fun j => ?_
        have l1 := q1.1
        have l2 := q4.1
        by_cases hj : j < xs.length
        · have h1 := c1 j _ (List.getElem?_eq_getElem hj)
          have h2 := c2 j _ (List.getElem?_eq_getElem (by omega : j < ys.length))
          rw [h1] at h2
          rw [List.getElem?_eq_getElem hj, List.getElem?_eq_getElem (by omega : j < ys.length)]
          exact h2
        · rw [List.getElem?_eq_none (by omega), List.getElem?_eq_none (by omega)]
  subst hxy
  refine ⟨xs, q1.kept hb.1 (fun k hk he => hb.2.1 k hk (by have := q6 k he; omega)), ?_, q3⟩
  exact frs_both q2 q5 ⟨hb.1, fun k hk ho => hb.2.1 k hk (by have := ho.1; omega)⟩ (fun _ h => h.1)
where
  frs_both {W W' : World} {ok ok2 : Nat → Prop} {lo : Nat} : ∀ {fs : List Frm} {xs : List Value}, Frs W ok fs xs → Frs W ok2 fs xs → KeptOn (fun k => k < lo ∧ ok k) W W' → (∀ k, ok2 k → k < lo) → Frs W' ok fs xs
    | [], _, h, _, _, _ => h
    | f :: fs, _, ⟨pv, cv, ys, e, hb, hr⟩, ⟨pv2, cv2, ys2, e2, hb2, hr2⟩, hk, ho => by
      rw [e] at e2
      injection e2 with _ e3
      injection e3 with e3 e4
      injection e3 with e5 _ e6
      subst e5 e4
      refine ⟨pv, cv, ys, e, fun h0 => ?_, frs_both hr hr2 hk ho⟩
      obtain ⟨b, o, e7, h1, h2, h3⟩ := hb h0
      obtain ⟨b2, o2, e8, h4, _⟩ := hb2 h0
      rw [e7] at e8
      injection e8 with e8
      injection e8 with e8
      subst e8
      have hh := hk.2 b h2 ⟨ho b h4, h1⟩
      exact ⟨b, o, e7, h1, Nat.lt_of_lt_of_le h2 hk.1, fun i hi => by rw [World.cell?_of_block (a := ⟨b, o + i, none⟩) hh, World.frozen?_of_block (a := ⟨b, o + i, none⟩) hh]; exact h3 i hi⟩
theorem ff_feed {r' : Option Nat} {P : List UInt8} (h : FF w s W av A gv fs r b p) (h1 : Spl W' s r' (b ++ P) p) (h2 : r' = r ∨ ∃ g, r' = some g ∧ W.heap.size ≤ g) (h3 : KeptOn (fun k => k ≠ s ∧ r ≠ some k) W W') (h4 : W'.os = W.os) (h5 : W'.tape = W.tape) (h6 : W'.output = W.output) : FF w s W' av A gv fs r' (b ++ P) p := by
  obtain ⟨g1, g2, g3, g4, g5, g6, g7⟩ := h
  have hav := g5.own_lt
  have hsz := g1.size
  have hr : ∀ g, r' = some g → r = some g ∨ W.heap.size ≤ g := fun g e => by
    rcases h2 with e2 | ⟨g', e2, h⟩
    · exact .inl (by rw [← e2]; exact e)
    · rw [e2] at e; injection e with e; exact .inr (by omega)
  refine ⟨⟨h4.trans g1.os, h5.trans g1.tape, h6.trans g1.output, Nat.le_trans g1.size h3.1, fun k hk => (h3.2 k (Nat.lt_of_lt_of_le hk g1.size) ⟨by omega, fun e => by have := g4 k e; omega⟩).trans (g1.block k hk)⟩, g2, h1, fun g e => ?_, g5.kept h3.1 (fun k hk he => h3.2 k hk ⟨(g6 k he).2.1, (g6 k he).2.2⟩), fun k he => ⟨(g6 k he).1, (g6 k he).2.1, fun e => ?_⟩, g7.keep (h3.of fun k _ ho => ⟨ho.2.1, ho.2.2.1⟩) (fun k hk ho => ⟨ho.1, ho.2.1, fun e => ?_, ho.2.2.2⟩)⟩
  · rcases hr g e with e2 | e2
    · exact g4 g e2
    · omega
  · rcases hr k e with e2 | e2
    · exact (g6 k he).2.2 e2
    · have := hav k he; omega
  · rcases hr k e with e2 | e2
    · exact ho.2.2.1 e2
    · omega
theorem ff_all {P : List UInt8} {pp : Option Addr} {cp : Nat} (h : FF w s W av A gv fs r b p) (hP : Bys W W.heap.size pp P) (hl : A.length + P.length ≤ 1048576) :
    ∃ pa ca W', (Builtin.append_ #[26, 26] 26 #[av, .slice pp P.length cp]).run Tryd.prog W = .ok (.slice pa (A.length + P.length) ca) W' ∧ FF w s W' (.slice pa (A.length + P.length) ca) (A ++ P) gv fs r b p := by
  obtain ⟨g1, g2, g3, g4, g5, g6, g7⟩ := h
  obtain ⟨i0, hi, hz0, hz1, hz2⟩ := info_parts infoU8
  obtain ⟨v', W', hrun, hbuf, hgr, hrw⟩ := run_append_buf (P := Tryd.prog) W 26 26 5 i0 (.int .u8 0) 1 1 Tryd.underlying26 hi hz0 hz1 hz2 rfl (by decide) w.heap.size _ _ _ g5 pp P.length cp _ (src_bys hP) (by unfold maxLen; omega) (by omega) g1.size
  have hbuf' : Buf W' w.heap.size 1 v' (A ++ P).length (Lib.byteCells (A ++ P)) := by rw [List.length_append, Lib.byteCells_append]; exact hbuf
  obtain ⟨pa, ca, e, -, -⟩ := hbuf'.bys
  rw [List.length_append] at e
  subst e
  have hav := g5.own_lt
  have hs := g3.lt
  have hrl := fun g (e : r = some g) => (g3.row e).1
  have hr2 : ∀ k, (Value.slice pa (A.length + P.length) ca).ownBlock = some k → av.ownBlock = some k ∨ W.heap.size ≤ k := fun k e => by
    rcases hrw with e2 | ⟨g, e2, hg⟩
    · rw [e2] at e; exact .inl e
    · rw [e2] at e; injection e with e; exact .inr (by omega)
  refine ⟨pa, ca, W', hrun, ⟨g1.grown hgr g1.size (fun k e => (g6 k e).1), g2, g3.kept hgr (fun e => (g6 s e.symm).2.1 rfl) (fun g e e2 => (g6 g e2.symm).2.2 e), g4, hbuf', fun k e => ?_, g7.keep (KeptOn.grown hgr (fun k e ho => ho.2.2.2 e)) (fun k hk ho => ⟨ho.1, ho.2.1, ho.2.2.1, fun e => ?_⟩)⟩⟩
  · have hsz := g1.size
    rcases hr2 k e with e2 | e2
    · exact g6 k e2
    · exact ⟨by omega, by omega, fun e3 => by have := hrl k e3; omega⟩
  · rcases hr2 k e with e2 | e2
    · exact ho.2.2.2 e2
    · omega
theorem ff_drain {r' : Option Nat} {b' : List UInt8} {p' : Nat} (h : FF w s W av A gv fs r b p) (hg : W.grownBy W' (some s)) (hs : Spl W' s r' b' p') (hr : ∀ g, r' = some g → r = some g ∨ W.heap.size ≤ g) : FF w s W' av A gv fs r' b' p' := by
  obtain ⟨g1, g2, g3, g4, g5, g6, g7⟩ := h
  have hav := g5.own_lt
  have hsz := g1.size
  refine ⟨g1.grown hg g1.size (fun k e => by injection e with e; omega), g2, hs, fun g e => ?_, g5.grown hg (fun k e e2 => by injection e2 with e2; exact (g6 k e).2.1 e2), fun k e => ⟨(g6 k e).1, (g6 k e).2.1, fun e2 => ?_⟩, g7.keep (KeptOn.grown hg (fun k e ho => by injection e with e; exact ho.2.1 e.symm)) (fun k hk ho => ⟨ho.1, ho.2.1, fun e => ?_, ho.2.2.2⟩)⟩
  · rcases hr g e with e2 | e2
    · exact g4 g e2
    · omega
  · rcases hr k e2 with e3 | e3
    · exact (g6 k e).2.2 e3
    · have := hav k e; omega
  · rcases hr k e with e3 | e3
    · exact ho.2.2.1 e3
    · omega
theorem ff_got {dv : Value} {gs : List Frm} {lo : Nat} (h : FF w s W av A gv fs r b p) (hd : OutF W (fun k => lo ≤ k ∧ r ≠ some k) dv gs) (hlo : w.heap.size ≤ lo) (hs : s < lo) (ha : ∀ k, av.ownBlock = some k → k < lo) (hg : ∀ k, gv.ownBlock = some k → k < lo) (hc : fs.length + gs.length ≤ 1048576) :
    ∃ gv' W', (Builtin.append_ #[27, 27] 27 #[gv, dv]).run Tryd.prog W = .ok gv' W' ∧ FF w s W' av A gv' (fs ++ gs) r b p := by
  obtain ⟨g1, g2, g3, g4, g5, g6, g7⟩ := h
  have hav := g5.own_lt
  have hsz := g1.size
  have hs1 := g3.lt
  have hrl := fun g (e : r = some g) => (g3.row e).1
  obtain ⟨gv', W', hrun, hout, hgr⟩ := outp_append g7 hd (fun k hk ho => ⟨⟨by have := ho.1; omega, by have := ho.1; omega, ho.2, fun e => by have := ha k e; have := ho.1; omega⟩, fun e => by have := hg k e; have := ho.1; omega⟩) (fun k hk => ⟨by omega, by omega, fun e => by have := hrl k e; omega, fun e => by have := hav k e; omega⟩) hc
  have hgv : ∀ k, gv.ownBlock = some k → okG w.heap.size s r av k := by
    obtain ⟨_, _, _, ho⟩ := g7
    exact ho
  exact ⟨gv', W', hrun, ⟨g1.grown hgr g1.size (fun k e => (hgv k e).1), g2, g3.kept hgr (fun e => (hgv s e.symm).2.1 rfl) (fun g e e2 => (hgv g e2.symm).2.2.1 e), g4, g5.grown hgr (fun k e e2 => (hgv k e2.symm).2.2.2 e), g6, hout⟩⟩
end
end Go.Proofs.YtllboenffepcgaaDoor
