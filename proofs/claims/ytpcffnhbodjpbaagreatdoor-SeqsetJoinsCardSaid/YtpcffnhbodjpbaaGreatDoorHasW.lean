/- seqset.Has. -/
import Derived.Test.YtpcffnhbodjpbaaGreatDoorRgD
import Derived.Test.YtpcffnhbodjpbaaGreatDoorRgL
import Derived.Test.YtpcffnhbodjpbaaGreatDoorRanLv
set_option linter.unusedVariables false
set_option linter.unusedSimpArgs false
namespace Go.Proofs.YtpcffnhbodjpbaaGreatDoor
open Go Go.RowKit Go.Shelf Go.Lib Go.Sort
attribute [local go_sem] Oper.semAt_some

/-- Has between two steps: the number's box nb, the result's box rb; the blocks zs are another's. -/
structure HJ (w0 : World) (B nb rb x : Nat) (zs : List (Nat × Obj)) (W : World) : Prop where
  nbx : Boxed W nb 30 (.int .u32 (x : Nat))
  rbx : Boxed W rb 4 (.bool false)
  low : Below B w0 W
  prot : ∀ z ∈ zs, W.heap[z.1]? = some z.2 ∧ z.1 ≠ rb ∧ z.2.isCells = true
  lob : B ≤ nb ∧ B ≤ rb ∧ nb ≠ rb
/-- Has behind a hit. -/
def HX (w0 : World) (B rb : Nat) (H : Prop) (W : World) : Prop := Boxed W rb 4 (.bool true) ∧ Below B w0 W ∧ H ∧ B ≤ rb
section
variable {w0 W W' : World} {B nb rb x : Nat} {zs : List (Nat × Obj)}
theorem HJ.grow (h : HJ w0 B nb rb x zs W) (hb : Below W.heap.size W W') : HJ w0 B nb rb x zs W' :=
  ⟨(hb.block nb h.nbx.lt).trans h.nbx, (hb.block rb h.rbx.lt).trans h.rbx, h.low.trans (hb.mono (by have := h.nbx.lt; have := h.lob.1; omega)), fun z hz => by
    obtain ⟨e, e2⟩ := h.prot z hz
    exact ⟨(hb.block z.1 (Array.getElem?_eq_some_iff.1 e).1).trans e, e2⟩, h.lob⟩
theorem HJ.add (h : HJ w0 B nb rb x zs W) (hb : Below W.heap.size W W') {k : Nat} {o : Obj} (hk : W.heap.size ≤ k) (ho : W'.heap[k]? = some o) (hc : o.isCells = true) : HJ w0 B nb rb x ((k, o) :: zs) W' := by
  have h' := h.grow hb
  have hlt := h.rbx.lt
  refine ⟨h'.nbx, h'.rbx, h'.low, fun z hz => ?_, h.lob⟩
  rcases List.mem_cons.1 hz with rfl | hz
  · exact ⟨ho, by simp only; omega, hc⟩
  · exact h'.prot z hz
theorem HJ.weak {z : Nat × Obj} (h : HJ w0 B nb rb x (z :: zs) W) : HJ w0 B nb rb x zs W := ⟨h.nbx, h.rbx, h.low, fun z hz => h.prot z (List.mem_cons_of_mem _ hz), h.lob⟩
theorem HJ.at_ {z : Nat × Obj} (h : HJ w0 B nb rb x (z :: zs) W) : W.heap[z.1]? = some z.2 := (h.prot z List.mem_cons_self).1
theorem put_other {W : World} {l k : Nat} {o o' u : Obj} (hh : W.heap[l]? = some o) (ho : o.isCells = false) (hk : W.heap[k]? = some u) (hu : u.isCells = true) : (W.putObj l o').heap[k]? = some u := by
  refine (World.putObj_heap_other ?_).trans hk
  rintro rfl
  rw [hh] at hk
  injection hk with hk
  subst hk
  rw [ho] at hu
  cases hu
theorem HJ.put (h : HJ w0 B nb rb x zs W) {l : Nat} {o : Obj} (o' : Obj) (hl : B ≤ l) (hh : W.heap[l]? = some o) (ho : o.isCells = false) : HJ w0 B nb rb x zs (W.putObj l o') :=
  ⟨put_other hh ho h.nbx rfl, put_other hh ho h.rbx rfl, h.low.grown (grownBy_putObj' W l o') (by have := h.nbx.lt; have := h.lob.1; omega) (fun k e => by injection e with e; omega), fun z hz => by
    obtain ⟨e, e2, e3⟩ := h.prot z hz
    exact ⟨put_other hh ho e e3, e2, e3⟩, h.lob⟩
theorem HX.put {H : Prop} (h : HX w0 B rb H W) {l : Nat} {o : Obj} (o' : Obj) (hl : B ≤ l) (hh : W.heap[l]? = some o) (ho : o.isCells = false) : HX w0 B rb H (W.putObj l o') :=
  ⟨put_other hh ho h.1 rfl, h.2.1.grown (grownBy_putObj' W l o') (by have := h.1.lt; have := h.2.2.2; omega) (fun k e => by injection e with e; omega), h.2.2⟩
end

theorem results_cell1 {P : Program} {fn : Func} {p : Tmp} {ty : TypeId} (hr : fn.results = #[.cell p ty]) {tmps : Array Value} {W : World} {g : Nat} {u : Value} (hp : tmps.getD p undef = .pointer (some ⟨g, 0, none⟩)) (hl : (loadVar ty ⟨g, 0, none⟩).run P W = .ok u W) : (results fn tmps).run P W = .ok u W := by
  have e : (results fn tmps).run P W = ((asAddr (tmps.getD p undef)).run P W).andThen fun a w₁ => (loadVar ty a).run P w₁ := by
    simp only [results, hr]
    simp [Sem.run_bind, Result.andThen]
  rw [e, hp, show (asAddr (.pointer (some ⟨g, 0, none⟩))).run P W = .ok ⟨g, 0, none⟩ W from rfl]
  simp only [Result.andThen]
  rw [hl]
theorem load_bool {W : World} {g : Nat} {u : Value} (h : Boxed W g 4 u) : (loadVar 4 ⟨g, 0, none⟩).run Tryz.prog W = .ok u W := by
  have c0 : W.cell? ⟨g, 0, none⟩ = some u := h.cell
  simp [go_sem, c0]
theorem mgo_has {top x : Nat} {l : List RB} {ys : List Rng} {r : Rng} (hv : validB top (l.map RB.rng) = true) (ht : top < 4294967296) (h : MGo top l ys r) (hr : inR x r = true) : hasB top x (l.map RB.rng) = true := by
  obtain ⟨P, rest, hp, hs, he⟩ := h
  have h0 : 0 < top := by
    unfold validB at hv
    simp only [Bool.and_eq_true, decide_eq_true_eq] at hv
    exact hv.1.1
  rw [← merged_has (M := 4294967295) (n := x) hv hp hs (by omega) (fun _ _ => h0), ← he]
  simp [hr]
theorem mout_has {top x : Nat} {l : List RB} {ys : List Rng} (hv : validB top (l.map RB.rng) = true) (ht : top < 4294967296) (h : MOut top l ys) : hasB top x (l.map RB.rng) = ys.any (inR x) := by
  obtain ⟨P, hp, hs, rfl⟩ := h
  have h0 : 0 < top := by
    unfold validB at hv
    simp only [Bool.and_eq_true, decide_eq_true_eq] at hv
    exact hv.1.1
  exact (merged_has (M := 4294967295) (n := x) hv hp hs (by omega) (fun _ _ => h0)).symm

set_option maxRecDepth 100000 in
set_option maxHeartbeats 3200000 in
theorem has_any (top x : Nat) (ht : top < 4294967296) (l : List RB) (v : Value) (w : World) (hR : RgL w w.heap.size v (l.map RB.rng)) (hl : l.length ≤ 1048576) :
    Calls Tryz.prog 22 #[.int .u32 top, .int .u32 x, v] w fun e w' => e = .returned (.bool (hasB top x (l.map RB.rng))) ∧ Below w.heap.size w w' := by
  obtain ⟨A, cap, rfl, hcap, hcells⟩ := id hR
  rw [List.length_map] at hR ⊢
  obtain ⟨m, hm⟩ : ∃ m, l.length = m := ⟨_, rfl⟩
  rw [hm] at hR hl ⊢
  obtain ⟨nb, hnb⟩ : ∃ nb, w.heap.size = nb := ⟨_, rfl⟩
  have hb0 : Below w.heap.size w ((w.alloc (.cells #[.int .u32 (x : Nat)] 30)).alloc (.cells #[.bool false] 4)) := ((Below.refl _ w).alloc (Nat.le_refl _) _).alloc (by rw [World.size_alloc]; omega) _
  have hn0 : Boxed ((w.alloc (.cells #[.int .u32 (x : Nat)] 30)).alloc (.cells #[.bool false] 4)) nb 30 (.int .u32 (x : Nat)) := by rw [← hnb]; exact (Boxed.new w 30 (.int .u32 (x : Nat))).alloc _
  have hr0 : Boxed ((w.alloc (.cells #[.int .u32 (x : Nat)] 30)).alloc (.cells #[.bool false] 4)) (nb + 1) 4 (.bool false) := by
    have := Boxed.new (w.alloc (.cells #[.int .u32 (x : Nat)] 30)) 4 (.bool false)
    rw [World.size_alloc, hnb] at this
    exact this
  obtain ⟨W0, hW0⟩ : ∃ W0, (w.alloc (.cells #[.int .u32 (x : Nat)] 30)).alloc (.cells #[.bool false] 4) = W0 := ⟨_, rfl⟩
  have hz : W0.heap.size = nb + 2 := by rw [← hW0, World.size_alloc, World.size_alloc, hnb]
  rw [hW0] at hb0 hn0 hr0
  have HV := Lib.hid (callsIn_wide (n := 6 - 1).2 (valid_any top (l.map RB.rng) (.slice A m cap) W0 ((hR.below hb0 (Nat.le_refl _)).mono hb0.size) (by rw [List.length_map, hm]; exact hl)))
  have HR := Lib.hid (And.intro hR (And.intro hm hl))
  have H0 := Lib.hid (And.intro hb0 (And.intro hn0 (And.intro hr0 hz)))
  have HZ := Lib.hid hnb
  clear hR hm hl hcells hcap hb0 hn0 hr0 hz
  refine (callsIn_wide (n := 6)).1 ?_
  refine callsIn_of_wp_marks Tryz.func22 rfl trivial ?_ rfl
  simp only [Tryz.ntmps22, List.size_toArray, List.length_cons, List.length_nil, Nat.reduceAdd, Nat.reduceSub, Array.replicate_succ, Array.replicate_zero, List.push_toArray, List.append_toArray, List.nil_append, List.cons_append]
  gi_wp2
  refine ⟨trivial, ?_⟩
  clear hW0 hnb
  cases hvb : validB top (l.map RB.rng) with
  | false =>
    have HN : Hid (hasB top x (l.map RB.rng) = false) := Lib.hid (by unfold hasB; rw [hvb]; rfl)
    rw [hvb] at HV
    refine HV.out.mono ?_
    rintro e w1 ⟨rfl, hb1⟩
    have hr1 : Boxed w1 (nb + 1) 4 (.bool false) := (hb1.block _ H0.out.2.2.1.lt).trans H0.out.2.2.1
    have c1 := hr1.cell
    have f1 := hr1.frozen
    have hr2 : Boxed (w1.setCell ⟨nb + 1, 0, none⟩ (.bool false)) (nb + 1) 4 (.bool false) := hr1.set _
    have hbel : Below w.heap.size w (w1.setCell ⟨nb + 1, 0, none⟩ (.bool false)) := (H0.out.1.trans (hb1.mono H0.out.1.size)).setCell (by show w.heap.size ≤ nb + 1; have := HZ.out; omega) _
    have HB := Lib.hid (And.intro hr2 hbel)
    clear hb1 hvb hr1 hr2 hbel
    gi_wp2
    rw [HN.out]
    exact ⟨_, results_cell1 rfl rfl (load_bool HB.out.1), rfl, HB.out.2⟩
  | true =>
    rw [hvb] at HV
    refine HV.out.mono ?_
    rintro e w1 ⟨rfl, hb1⟩
    have hbw := H0.out.1.trans (hb1.mono H0.out.1.size)
    have hn1 : Boxed w1 nb 30 (.int .u32 (x : Nat)) := (hb1.block _ H0.out.2.1.lt).trans H0.out.2.1
    have hr1 : Boxed w1 (nb + 1) 4 (.bool false) := (hb1.block _ H0.out.2.2.1.lt).trans H0.out.2.2.1
    have HB := Lib.hid (And.intro hbw (And.intro hvb (And.intro hn1 hr1)))
    clear hb1 hvb hbw hn1 hr1
    gi_wp2
    refine ⟨trivial, ?_⟩
    refine (callsIn_wide.2 (merged_any _ _ _ _ _)).mono ?_
    rintro e w3 ⟨rfl, rfl⟩
    gi_wp2
    obtain ⟨s1, hs1⟩ : ∃ s1, w1.heap.size = s1 := ⟨_, rfl⟩
    have hsa : ∀ o, (w1.alloc o).heap.size = s1 + 1 := fun o => by rw [World.size_alloc, hs1]
    simp only [hs1, hsa]
    obtain ⟨W2, hW2⟩ : ∃ W2, (w1.alloc (.cells #[.int .u32 (top : Nat)] 30)).alloc (.cells #[.slice A m cap] 22) = W2 := ⟨_, rfl⟩
    have hz2 : W2.heap.size = s1 + 2 := by rw [← hW2, World.size_alloc, World.size_alloc, hs1]
    have hlt : nb + 1 < s1 := by have := HB.out.2.2.2.lt; omega
    have hb12 : Below s1 w1 W2 := by
      rw [← hW2, ← hs1]
      exact ((Below.refl _ w1).alloc (Nat.le_refl _) _).alloc (by rw [World.size_alloc]; omega) _
    obtain ⟨Z0, hZ0⟩ : ∃ Z0 : List (Nat × Obj), Z0 = [(s1, .cells #[.int .u32 (top : Nat)] 30), (s1 + 1, .cells #[.slice A m cap] 22)] := ⟨_, rfl⟩
    have hj0 : HJ w w.heap.size nb (nb + 1) x Z0 W2 := by
      refine ⟨(hb12.block nb (by omega)).trans HB.out.2.2.1, (hb12.block (nb + 1) (by omega)).trans HB.out.2.2.2, HB.out.1.trans (hb12.mono (by have := HZ.out; omega)), fun z hz => ?_, by have := HZ.out; omega⟩
      rw [hZ0] at hz
      simp only [List.mem_cons, List.not_mem_nil, or_false] at hz
      rcases hz with rfl | rfl
      · refine ⟨?_, by simp only; omega, rfl⟩
        have := (Boxed.new w1 30 (.int .u32 (top : Nat))).alloc (.cells #[.slice A m cap] 22)
        rw [hW2, hs1] at this
        exact this
      · refine ⟨?_, by simp only; omega, rfl⟩
        have := Boxed.new (w1.alloc (.cells #[.int .u32 (top : Nat)] 30)) 22 (.slice A m cap)
        rw [hW2, World.size_alloc, hs1] at this
        exact this
    rw [hW2]
    have HJ0 := Lib.hid (And.intro hj0 (And.intro hZ0 (And.intro hz2 hlt)))
    have HS := Lib.hid hs1
    clear hj0 hZ0 hW2 hb12 hsa hs1 hlt
    refine wpIn_rangeFunc_leave rfl (by decide) (gf := 48) (lb := #[.pointer (some ⟨s1 + 1, 0, none⟩), .pointer (some ⟨s1, 0, none⟩)]) rfl trivial (enters_of Tryz.func48 (by kernel_rfl) rfl) (encs := fun x : Rng => #[.agg #[.int .u32 (x.lo : Nat), .int .u32 (x.hi : Nat)]]) (fun _ => rfl)
      (fun (i : List (Nat × Obj) × List Rng) W => HJ w w.heap.size nb (nb + 1) x i.1 W ∧ i.2.any (inR x) = false) (HX w w.heap.size (nb + 1) (hasB top x (l.map RB.rng) = true)) (fun W lx o o' hl hh ho hj => hj.put o' (by have := HJ0.out.2.2.2; have := HZ.out; omega) hh ho) (fun i x i' => MGo top l i.2 x ∧ i' = (i.1, i.2 ++ [x])) (fun i => MOut top l i.2) (Z0, [])
      (fun i W lx o o' hl hh ho hj => ⟨hj.1.put o' (by have := HJ0.out.2.2.2; have := HZ.out; omega) hh ho, hj.2⟩) (fun rr => ⟨(HJ0.out.1.grow ((Below.refl _ W2).alloc (Nat.le_refl _) _)).grow ((Below.refl _ _).alloc (Nat.le_refl _) _), rfl⟩)
      (fun i y i' a1 W => (MGo top l i.2 y ∧ i' = (i.1, i.2 ++ [y])) ∧ i.2.any (inR x) = false ∧ ∃ fb, HJ w w.heap.size nb (nb + 1) x ((fb, .cells #[.int .u32 (y.lo : Nat), .int .u32 (y.hi : Nat)] 32) :: i.1) W ∧ a1 =
        { tmps := #[.int .u32 (top : Nat), .int .u32 (x : Nat), .slice A m cap, undef, .pointer (some ⟨nb, 0, none⟩), undef, .pointer (some ⟨nb + 1, 0, none⟩), .pointer (some ⟨fb, 0, none⟩), .int .u32 (top : Nat), .slice A m cap, .bool true, .bool false, .int .u32 (top : Nat), .slice A m cap,
            .func (.func 48) #[] #[.pointer (some ⟨s1 + 1, 0, none⟩), .pointer (some ⟨s1, 0, none⟩)], .agg #[.int .u32 (y.lo : Nat), .int .u32 (y.hi : Nat)], undef, undef, undef, undef, undef, undef, undef, undef, undef, undef], defers := [] })
      (fun i x i' a1 W lx o o' hl hh ho ⟨ht, hn, fb, hj, ha⟩ => ⟨ht, hn, fb, hj.put o' (by have := HJ0.out.2.2.2; have := HZ.out; omega) hh ho, ha⟩) ?assign ?body ?hit ?done ?stop
    case assign =>
      intro lx i y i' W K hj ht hsz hK
      have HK := Lib.hid hK
      have HT := Lib.hid (And.intro hj ht)
      clear hK hj ht
      gi_wp2
      exact HK.out _ _ (KeepsOthers.alloc W _) ⟨HT.out.2, HT.out.1.2, W.heap.size, HT.out.1.1.add ((Below.refl _ W).alloc (Nat.le_refl _) _) (Nat.le_refl _) (heap_alloc_new W _) rfl, rfl⟩
    case body =>
      rintro lx i y i' a1 W ⟨⟨hgo, rfl⟩, hno, fb, hj, rfl⟩ hsz
      obtain ⟨lo, hi⟩ := y
      simp only at hj ⊢
      have hblk : Blk W fb 32 #[.int .u32 (lo : Nat), .int .u32 (hi : Nat)] := hj.at_
      have d0 : W.cell? ⟨fb, 0, none⟩ = some (.int .u32 (lo : Nat)) := hblk.cell 0
      have d1 : W.cell? ⟨fb, 1, none⟩ = some (.int .u32 (hi : Nat)) := hblk.cell 1
      have dn := hj.nbx.cell
      have dr := hj.rbx.cell
      have fr := hj.rbx.frozen
      have HG := Lib.hid (And.intro hj (And.intro hgo hno))
      clear hj hgo hno hblk
      by_cases h1 : lo ≤ x
      · have h1I : (lo : Int) ≤ x := by omega
        have h1d : decide ((lo : Int) ≤ (x : Int)) = true := decide_eq_true h1I
        by_cases h2 : x ≤ hi
        · have h2I : (x : Int) ≤ hi := by omega
          have h2d : decide ((x : Int) ≤ (hi : Int)) = true := decide_eq_true h2I
          gi_wp2
          refine ⟨KeepsOthers.setCell _ _ _, HG.out.1.rbx.set _, HG.out.1.low.setCell (by show w.heap.size ≤ nb + 1; have := HZ.out; omega) _, ?_, by have := HZ.out; omega⟩
          exact mgo_has HB.out.2.1 ht HG.out.2.1 (by unfold inR; rw [decide_eq_true h1, decide_eq_true h2]; rfl)
        · have h2I : ¬ ((x : Int) ≤ hi) := by omega
          have h2d : decide ((x : Int) ≤ (hi : Int)) = false := decide_eq_false h2I
          gi_wp2
          refine ⟨KeepsOthers.refl _, HG.out.1.weak, ?_⟩
          refine ⟨fun r hr => ?_, by simp [inR, h2]⟩
          have := List.any_eq_false.1 HG.out.2.2 r hr
          simpa using this
      · have h1I : ¬ ((lo : Int) ≤ x) := by omega
        have h1d : decide ((lo : Int) ≤ (x : Int)) = false := decide_eq_false h1I
        gi_wp2
        refine ⟨KeepsOthers.refl _, HG.out.1.weak, ?_⟩
        refine ⟨fun r hr => ?_, by simp [inR, h1]⟩
        have := List.any_eq_false.1 HG.out.2.2 r hr
        simpa using this
    case hit =>
      intro R Rx W1 hRR hRs hY hJ hR1
      have hZ0 := HJ0.out.2.1
      have hbt : W1.heap[s1]? = some (.cells #[.int .u32 (top : Nat)] 30) := (hJ.1.prot (s1, .cells #[.int .u32 (top : Nat)] 30) (by rw [hZ0]; simp)).1
      have hbl : W1.heap[s1 + 1]? = some (.cells #[.slice A m cap] 22) := (hJ.1.prot (s1 + 1, .cells #[.slice A m cap] 22) (by rw [hZ0]; simp)).1
      have hbt' : Boxed W1 s1 30 (.int .u32 (top : Nat)) := hbt
      have hbl' : Boxed W1 (s1 + 1) 22 (.slice A m cap) := hbl
      have hl0 : 0 < l.length := by
        have := HB.out.2.1
        cases l with
        | nil => simp [validB] at this
        | cons a t => simp
      refine (merged1_lv (6 - 1) (by decide) (W2.heap.size + 1) s1 (s1 + 1) top ht l (.slice A m cap) (by have := HR.out.2.1; have := HR.out.2.2; omega) hl0 (fun zs ys W => (HJ w w.heap.size nb (nb + 1) x (zs ++ Z0) W ∧ ys.any (inR x) = false) ∧ W2.heap.size + 2 ≤ W.heap.size) R (fun W => HX w w.heap.size (nb + 1) (hasB top x (l.map RB.rng) = true) W ∧ Rx W)
        (fun W W' hr hb => hRR W W' hr (fun k hk => hb.block k (by have := hRs W hr; omega)))
        (fun zs ys W W' hj hb => ⟨⟨hj.1.1.grow hb, hj.1.2⟩, Nat.le_trans hj.2 hb.size⟩) (fun zs ys W W' k o hj hb hk ho hc => ⟨⟨hj.1.1.add hb hk ho hc, hj.1.2⟩, Nat.le_trans hj.2 hb.size⟩) (fun z zs ys W hj => ⟨⟨hj.1.1.weak, hj.1.2⟩, hj.2⟩) (fun z zs ys W hj => hj.1.1.at_)
        (fun zs ys y W hj hr hg => (hY (zs ++ Z0, ys) y (zs ++ Z0, ys ++ [y]) W hj.1 hr ⟨hg, rfl⟩).mono fun e W' h => h.imp (fun ⟨h1, h2, h3⟩ => ⟨h1, ⟨h2, by have := hRs W' h3; omega⟩, h3⟩) (fun h => h)) W1 hbt'.cell hbt'.lt hbl'.cell hbl'.lt
        ((HR.out.1.below hJ.1.low (Nat.le_refl _)).mono hJ.1.low.size) ⟨hJ, by have := hRs W1 hR1; omega⟩ hR1).mono ?_
      rintro e W' ⟨hv, ⟨zs, ys, h1, h2, h3⟩ | h4⟩
      · exact ⟨hv, .inl ⟨(zs ++ Z0, ys), h1, h2.1, h3⟩⟩
      · exact ⟨hv, .inr h4⟩
    case done =>
      rintro i W hS hj hK
      have dr := hj.1.rbx.cell
      have fr := hj.1.rbx.frozen
      have HJ1 := Lib.hid (And.intro hS (And.intro hj hK))
      clear hS hj hK hz2
      gi_wp2
      obtain ⟨hS, ⟨hj, hno⟩, hK⟩ := HJ1.out
      have hne : W2.heap.size ≠ nb + 1 := by have := HJ0.out.2.2; omega
      have hK2 : (W.setCell ⟨nb + 1, 0, none⟩ (.bool false)).heap[W2.heap.size]? = some (.deferred (some [])) := (Below.heap_setCell W ⟨nb + 1, 0, none⟩ _ _ hne).trans hK
      have hr2 : Boxed (W.setCell ⟨nb + 1, 0, none⟩ (.bool false)) (nb + 1) 4 (.bool false) := hj.rbx.set _
      have hl2 : Below w.heap.size w (W.setCell ⟨nb + 1, 0, none⟩ (.bool false)) := hj.low.setCell (by show w.heap.size ≤ nb + 1; have := HZ.out; omega) _
      have hx2 : HX w w.heap.size (nb + 1) True ((W.setCell ⟨nb + 1, 0, none⟩ (.bool false)).setCell ⟨nb + 1, 0, none⟩ (.bool true)) := ⟨hr2.set _, hl2.setCell (by show w.heap.size ≤ nb + 1; have := HZ.out; omega) _, trivial, by have := HZ.out; omega⟩
      clear hx2
      refine ⟨by simp, .inl ⟨_, _, rfl, run_takeDeferred hK2, ?_⟩⟩
      refine ⟨_, results_cell1 rfl rfl (load_bool (put_other hK2 rfl hr2 rfl)), ?_, hl2.grown (grownBy_putObj' _ _ _) (by have := hr2.lt; have := HZ.out; omega) (fun k e => by injection e with e; have := HZ.out; have := HJ0.out.2.2; omega)⟩
      rw [mout_has HB.out.2.1 ht hS, hno]
    case stop =>
      rintro W hx hK
      have HJ1 := Lib.hid (And.intro hx hK)
      clear hx hK hz2
      gi_wp2
      obtain ⟨⟨hr2, hl2, hh, hle⟩, hK2⟩ := HJ1.out
      refine ⟨by simp, .inl ⟨_, _, rfl, run_takeDeferred hK2, ?_⟩⟩
      refine ⟨_, results_cell1 rfl rfl (load_bool (put_other hK2 rfl hr2 rfl)), ?_, hl2.grown (grownBy_putObj' _ _ _) (by have := hr2.lt; omega) (fun k e => by injection e with e; have := HZ.out; have := HJ0.out.2.2; omega)⟩
      rw [hh]
end Go.Proofs.YtpcffnhbodjpbaaGreatDoor
