/- seqset.Numbers. The walk of seqset.Numbers. -/
import Derived.Test.YtamholmjppgfiaaGreatDoorRgC
import Derived.Test.YtamholmjppgfiaaGreatDoorRan33
set_option linter.unusedVariables false
set_option linter.unusedSimpArgs false
namespace Go.Proofs.YtamholmjppgfiaaGreatDoor
open Go Go.RowKit Go.Shelf Go.Lib Go.Sort
attribute [local go_sem] Oper.semAt_some

theorem mrg_mem {M : Nat} : ∀ (P : List Rng) (nx : Nat) (x : Rng), x ∈ mrg M nx P → ∃ r ∈ P, x.hi = r.hi ∧ x.lo ≤ x.hi ∧ nx ≤ x.lo
  | [], _, _, h => by simp [mrg] at h
  | ⟨a, c⟩ :: P, nx, x, h => by
    rw [mrg_cons] at h
    by_cases hs : c < max a nx
    · rw [if_pos hs] at h
      obtain ⟨r, hr, h1, h2, h3⟩ := mrg_mem P nx x h
      exact ⟨r, List.mem_cons_of_mem _ hr, h1, h2, h3⟩
    · rw [if_neg hs, List.mem_cons] at h
      rcases h with rfl | h
      · exact ⟨⟨a, c⟩, List.mem_cons_self, rfl, by simp only; omega, by simp only; omega⟩
      · by_cases hm : c = M
        · rw [if_pos hm] at h; simp at h
        · rw [if_neg hm] at h
          obtain ⟨r, hr, h1, h2, h3⟩ := mrg_mem P (c + 1) x h
          exact ⟨r, List.mem_cons_of_mem _ hr, h1, h2, by omega⟩
/-- The numbers of the ranges ys. -/
def numsL (ys : List Rng) : List Nat := ys.flatMap fun r => nums r.lo r.hi
theorem mout_nums {top : Nat} {l : List RB} {ys : List Rng} (hv : validB top (l.map RB.rng) = true) (ht : top < 4294967296) (h : MOut top l ys) : numsL ys = numsOf top (l.map RB.rng) := by
  obtain ⟨P, hp, hs, rfl⟩ := h
  exact merged_nums hv hp hs (by omega)
theorem numsOf_len (top : Nat) (l : List Rng) : (numsOf top l).length ≤ top := by
  unfold numsOf
  split
  · have := List.length_filter_le (fun n => anyR n (l.map (plainR top))) (nums 1 top)
    rw [nums_len] at this
    omega
  · simp
theorem mgo_bound {top : Nat} {l : List RB} {ys : List Rng} {x : Rng} (hv : validB top (l.map RB.rng) = true) (ht : top < 4294967296) (h : MGo top l ys x) : 1 ≤ x.lo ∧ x.lo ≤ x.hi ∧ x.hi ≤ top ∧ (numsL ys).length + (x.hi + 1 - x.lo) ≤ top := by
  obtain ⟨P, rest, hp, hs, he⟩ := h
  have hx : x ∈ mrg 4294967295 1 P := by rw [← he]; simp
  obtain ⟨r, hr, h1, h2, h3⟩ := mrg_mem P 1 x hx
  obtain ⟨y, hy, rfl⟩ := List.mem_map.1 (hp.mem_iff.1 hr)
  obtain ⟨v1, v2⟩ := valid_mem hv y hy
  have h4 := (plain_le v1 v2).2
  refine ⟨h3, h2, by omega, ?_⟩
  have e := mout_nums hv ht ⟨P, hp, hs, he⟩
  have hl := numsOf_len top (l.map RB.rng)
  rw [← e] at hl
  unfold numsL at hl ⊢
  rw [List.flatMap_append, List.flatMap_cons, List.length_append, List.length_append, nums_len] at hl
  omega
theorem nums_snoc {a b : Nat} (h : a ≤ b + 1) : nums a (b + 1) = nums a b ++ [b + 1] := by
  rw [nums_cut (a := a) (b := b) (c := b + 1) h (by omega)]
  congr 1
  unfold nums
  rw [show b + 1 + 1 - (b + 1) = 1 by omega]
  rfl

theorem buf_pos {w : World} {B size n : Nat} {v : Value} {xs : List Value} (h : Buf w B size v (n + 1) xs) : ∃ g o c, v = .slice (some ⟨g, o, none⟩) (n + 1) c := by
  obtain ⟨_, h2⟩ := h
  cases h2 with
  | inl h => exact absurd h.2 (Nat.succ_ne_zero n)
  | inr h =>
    obtain ⟨g, o, c, e, _⟩ := h
    exact ⟨g, o, c, e⟩
def n32 (n : Nat) : Value := .int .u32 (n : Nat)
/-- Numbers between two steps: the numbers ns have come; the blocks zs are another's. -/
structure NJ (w0 : World) (B ob : Nat) (zs : List (Nat × Obj)) (ns : List Nat) (W : World) : Prop where
  box : ∃ v, Boxed W ob 52 v ∧ Buf W B 1 v ns.length (ns.map n32) ∧ v.ownBlock ≠ some ob ∧ (∀ z ∈ zs, v.ownBlock ≠ some z.1) ∧ (ns = [] → v = .slice none 0 0)
  low : Below B w0 W
  prot : ∀ z ∈ zs, W.heap[z.1]? = some z.2 ∧ z.1 ≠ ob ∧ z.2.isCells = true
  lob : B ≤ ob
section
variable {w0 W W' : World} {B ob : Nat} {zs : List (Nat × Obj)} {ns : List Nat}
theorem NJ.lt (h : NJ w0 B ob zs ns W) : ob < W.heap.size := by obtain ⟨v, hv, _⟩ := h.box; exact hv.lt
theorem NJ.grow (h : NJ w0 B ob zs ns W) (hb : Below W.heap.size W W') : NJ w0 B ob zs ns W' := by
  obtain ⟨v, hv, hbf, h1, h2, h3⟩ := h.box
  refine ⟨⟨v, (hb.block ob hv.lt).trans hv, hbf.below hb (Nat.le_refl _), h1, h2, h3⟩, h.low.trans (hb.mono (by have := hv.lt; have := h.lob; omega)), fun z hz => ?_, h.lob⟩
  obtain ⟨e, e2⟩ := h.prot z hz
  exact ⟨(hb.block z.1 (Array.getElem?_eq_some_iff.1 e).1).trans e, e2⟩
theorem NJ.add (h : NJ w0 B ob zs ns W) (hb : Below W.heap.size W W') {k : Nat} {o : Obj} (hk : W.heap.size ≤ k) (ho : W'.heap[k]? = some o) (hc : o.isCells = true) : NJ w0 B ob ((k, o) :: zs) ns W' := by
  have hlt := h.lt
  obtain ⟨v, hv, hbf, h1, h2, h3⟩ := h.box
  have h' := h.grow hb
  have hown : v.ownBlock ≠ some k := by
    rcases hbf.2 with ⟨rfl, _⟩ | ⟨g, off, cap, rfl, _, hg, _⟩
    · simp [Value.ownBlock]
    · simp [Value.ownBlock]; omega
  refine ⟨⟨v, (hb.block ob hv.lt).trans hv, hbf.below hb (Nat.le_refl _), h1, fun z hz => ?_, h3⟩, h'.low, fun z hz => ?_, h.lob⟩
  · rcases List.mem_cons.1 hz with rfl | hz
    · exact hown
    · exact h2 z hz
  · rcases List.mem_cons.1 hz with rfl | hz
    · exact ⟨ho, by simp only; omega, hc⟩
    · exact h'.prot z hz
theorem NJ.weak {z : Nat × Obj} (h : NJ w0 B ob (z :: zs) ns W) : NJ w0 B ob zs ns W := by
  obtain ⟨v, hv, hbf, h1, h2, h3⟩ := h.box
  exact ⟨⟨v, hv, hbf, h1, fun z hz => h2 z (List.mem_cons_of_mem _ hz), h3⟩, h.low, fun z hz => h.prot z (List.mem_cons_of_mem _ hz), h.lob⟩
theorem NJ.at_ {z : Nat × Obj} (h : NJ w0 B ob (z :: zs) ns W) : W.heap[z.1]? = some z.2 := (h.prot z List.mem_cons_self).1
theorem NJ.put (h : NJ w0 B ob zs ns W) {l : Nat} {o : Obj} (o' : Obj) (hl : B ≤ l) (hh : W.heap[l]? = some o) (ho : o.isCells = false) : NJ w0 B ob zs ns (W.putObj l o') := by
  have hlt := h.lt
  obtain ⟨v, hv, hbf, h1, h2, h3⟩ := h.box
  have hg := grownBy_putObj' W l o'
  have hcl : ∀ (k : Nat) (u : Obj), W.heap[k]? = some u → u.isCells = true → k ≠ l := fun k u hk hu e => by
    subst e
    rw [hh] at hk
    injection hk with hk
    subst hk
    rw [ho] at hu
    cases hu
  have hown : ∀ k, v.ownBlock = some k → some k ≠ some l := fun k e e2 => by
    injection e2 with e2
    subst e2
    rcases hbf.2 with ⟨rfl, _⟩ | ⟨g, off, cap, rfl, _, hg, hn, hc, hs⟩
    · cases e
    · have e' : g = k := by simpa [Value.ownBlock] using e
      subst e'
      cases hns : ns with
      | nil => have := h3 hns; cases this
      | cons a t =>
        have := (hs 0 (by rw [hns] at hn; simp only [List.length_cons] at hn; omega)).1
        obtain ⟨u, hu⟩ := Option.isSome_iff_exists.1 this
        obtain ⟨o2, ho2, hc2⟩ := cells_obj hu
        exact hcl _ _ ho2 hc2 rfl
  refine ⟨⟨v, hv.kept hg (fun e => by injection e with e; exact hcl ob _ hv rfl e), hbf.grown hg hown, h1, h2, h3⟩, h.low.grown hg (by have := h.lob; omega) (fun k e => by injection e with e; omega), fun z hz => ?_, h.lob⟩
  obtain ⟨e, e2, e3⟩ := h.prot z hz
  exact ⟨(World.putObj_heap_other (hcl _ _ e e3)).trans e, e2, e3⟩
set_option maxRecDepth 100000 in
theorem NJ.push (h : NJ w0 B ob zs ns W) (x : Nat) (hl : ns.length ≤ 1048576) : ∃ v g o c w', Boxed W ob 52 v ∧
    (Builtin.append_ #[52, 52] 52 #[v, .slice (some ⟨W.heap.size, 0, none⟩) 1 1]).run Tryz.prog (W.alloc (.cells #[.int .u32 (x : Nat)] 34)) = .ok (.slice (some ⟨g, o, none⟩) (ns.length + 1) c) w' ∧
    Boxed w' ob 52 v ∧ NJ w0 B ob zs (ns ++ [x]) (w'.setCell ⟨ob, 0, none⟩ (.slice (some ⟨g, o, none⟩) (ns.length + 1) c)) ∧ KeepsOthers W (w'.setCell ⟨ob, 0, none⟩ (.slice (some ⟨g, o, none⟩) (ns.length + 1) c)) := by
  have hlt := h.lt
  have hlo := h.lob
  have hq := h.grow ((Below.refl W.heap.size W).alloc (Nat.le_refl _) (.cells #[.int .u32 (x : Nat)] 34))
  obtain ⟨v0, hv0, hbf0, -, -, -⟩ := h.box
  obtain ⟨v, hv, hbf, h1, h2, h3⟩ := hq.box
  obtain ⟨i0, hi, hz0, hz1, hz2⟩ := info_parts infoU32
  obtain ⟨v', w', hrun, hb', hgr, hrw⟩ := run_append_buf (P := Tryz.prog) (W.alloc (.cells #[.int .u32 (x : Nat)] 34)) 52 52 34 i0 _ 1 4 Tryz.underlying52 hi hz0 hz1 hz2 rfl (by decide) B v ns.length _ hbf (some ⟨W.heap.size, 0, none⟩) 1 1 [.int .u32 (x : Nat)]
    ⟨rfl, fun u hu => by simp at hu; subst hu; rfl, fun _ => ⟨_, rfl, fun j u hj => by
      rw [Go.WideShapes.add_plain]
      simp only [World.cell?, heap_alloc_new, Nat.zero_add]
      simpa using hj⟩⟩ (by unfold maxLen; omega) (by omega) (by rw [World.size_alloc]; omega)
  have hvW : Boxed W ob 52 v := (Below.heap_alloc W _ ob hlt).symm.trans hv
  have hown : ∀ k, v.ownBlock = some k → B ≤ k ∧ k < W.heap.size + 1 := fun k e => by
    rcases hbf.2 with ⟨rfl, _⟩ | ⟨g, off, cap, rfl, a1, a2, _⟩
    · cases e
    · have e' : g = k := by simpa [Value.ownBlock] using e
      rw [World.size_alloc] at a2
      omega
  have hv1 : Boxed w' ob 52 v := hv.kept hgr (fun e => h1 e.symm)
  have hnew : ∀ k, k < W.heap.size → v.ownBlock ≠ some k → v'.ownBlock ≠ some k := fun k hk hne e => by
    rcases hrw with e2 | ⟨g, e2, hg⟩
    · exact hne (e2 ▸ e)
    · rw [e2] at e
      injection e with e
      rw [World.size_alloc] at hg
      omega
  have hcell : ∀ (j : Nat) (o : Obj), v.ownBlock = some j → (W.alloc (.cells #[.int .u32 (x : Nat)] 34)).heap[j]? = some o → o.isCells = true := fun j o e ho => by
    rcases hbf.2 with ⟨rfl, _⟩ | ⟨g, off, cap, rfl, _, hg, hn, hc, hs⟩
    · cases e
    · have e' : g = j := by simpa [Value.ownBlock] using e
      subst e'
      cases hns : ns with
      | nil => have := h3 hns; cases this
      | cons a t =>
        have := (hs 0 (by rw [hns] at hn; simp only [List.length_cons] at hn; omega)).1
        obtain ⟨u, hu⟩ := Option.isSome_iff_exists.1 this
        obtain ⟨o2, ho2, hc2⟩ := cells_obj hu
        rw [ho] at ho2
        injection ho2 with ho2
        rw [ho2]; exact hc2
  obtain ⟨g, o, c, rfl⟩ := buf_pos hb'
  have hput := grownBy_setCell' w' ob (.slice (some ⟨g, o, none⟩) (ns.length + 1) c)
  have hob' := hnew ob hlt h1
  have hlow : Below B w0 w' := hq.low.grown hgr (by rw [World.size_alloc]; omega) (fun k e => (hown k e).1)
  refine ⟨v, g, o, c, w', hvW, hrun, hv1, ⟨⟨_, hv1.set _, ?_, hob', fun z hz => ?_, fun e => by simp at e⟩, hlow.grown hput (by have := hlow.size; have := hgr.size; rw [World.size_alloc] at this; omega) (fun k e => by injection e with e; omega), fun z hz => ?_, hlo⟩,
    ((KeepsOthers.alloc W _).trans (KeepsOthers.of_grownBy hgr hcell)).trans (KeepsOthers.setCell _ _ _)⟩
  · have hbb := hb'.grown hput (fun k e e2 => by injection e2 with e2; subst e2; exact hob' e)
    rw [List.length_append, List.map_append]
    exact hbb
  · exact hnew z.1 (Array.getElem?_eq_some_iff.1 (h.prot z hz).1).1 (h2 z hz)
  · obtain ⟨e, e2, e3⟩ := hq.prot z hz
    refine ⟨(hput.block z.1 ?_ (fun e4 => by injection e4 with e4; exact e2 e4)).trans ((hgr.block z.1 (Array.getElem?_eq_some_iff.1 e).1 (fun e4 => h2 z hz e4.symm)).trans e), e2, e3⟩
    exact Nat.lt_of_lt_of_le (Array.getElem?_eq_some_iff.1 e).1 hgr.size
end

set_option maxHeartbeats 1000000 in
theorem merged_any (top : Int) (A : Option Addr) (n cap : Nat) (w : World) :
    Calls Tryz.prog 95 #[.int .u32 top, .slice A n cap] w fun e w' => e = .returned (.func (.func 101) #[] #[.pointer (some ⟨w.heap.size + 1, 0, none⟩), .pointer (some ⟨w.heap.size, 0, none⟩)]) ∧ w' = (w.alloc (.cells #[.int .u32 top] 34)).alloc (.cells #[.slice A n cap] 40) := by
  go_enter Tryz.func95, Tryz.ntmps95
  go_wp2_with fail
  go_ret
  exact ⟨rfl, rfl⟩
end Go.Proofs.YtamholmjppgfiaaGreatDoor

namespace Go.Proofs.YtamholmjppgfiaaGreatDoor
open Go Go.RowKit Go.Shelf Go.Lib Go.Sort
attribute [local go_sem] Oper.semAt_some

set_option maxRecDepth 100000 in
set_option maxHeartbeats 3200000 in
theorem numbers_any (top : Nat) (ht : top ≤ 1048576) (l : List RB) (v : Value) (w : World) (hR : RgL w w.heap.size v (l.map RB.rng)) (hl : l.length ≤ 1048576) :
    Calls Tryz.prog 80 #[.int .u32 top, v] w fun e w' => ∃ v', e = .returned v' ∧ Buf w' w.heap.size 1 v' (numsOf top (l.map RB.rng)).length ((numsOf top (l.map RB.rng)).map n32) ∧ Below w.heap.size w w' := by
  have hv := callsIn_wide (n := 6 - 1).2 (valid_any top (l.map RB.rng) v w hR (by rw [List.length_map]; exact hl))
  obtain ⟨A, cap, rfl, hcap, hcells⟩ := id hR
  rw [List.length_map] at hv hR ⊢
  obtain ⟨m, hm⟩ : ∃ m, l.length = m := ⟨_, rfl⟩
  rw [hm] at hv hR hl ⊢
  have HV := Lib.hid hv
  have HR := Lib.hid (And.intro hR (And.intro hm hl))
  clear hv hR hm hl hcells hcap
  refine (callsIn_wide (n := 6)).1 ?_
  refine callsIn_of_wp_marks Tryz.func80 rfl trivial ?_ rfl
  simp only [Tryz.ntmps80, List.size_toArray, List.length_cons, List.length_nil, Nat.reduceAdd, Nat.reduceSub, Array.replicate_succ, Array.replicate_zero, List.push_toArray, List.append_toArray, List.nil_append, List.cons_append]
  gi_wp2
  refine ⟨trivial, ?_⟩
  cases hvb : validB top (l.map RB.rng) with
  | false =>
    have HN : Hid (numsOf top (l.map RB.rng) = []) := Lib.hid (by unfold numsOf; rw [hvb]; rfl)
    rw [hvb] at HV
    refine HV.out.mono ?_
    rintro e w1 ⟨rfl, hb1⟩
    have HB := Lib.hid hb1
    clear hb1 hvb
    gi_wp2
    rw [HN.out]
    exact ⟨_, results_tmp rfl _ _ _, .slice none 0 0, rfl, Buf.nil _ _ _, HB.out⟩
  | true =>
    rw [hvb] at HV
    refine HV.out.mono ?_
    rintro e w1 ⟨rfl, hb1⟩
    have HB := Lib.hid (And.intro hb1 hvb)
    clear hb1 hvb
    gi_wp2
    refine ⟨trivial, ?_⟩
    refine (callsIn_wide.2 (merged_any _ _ _ _ _)).mono ?_
    rintro e w3 ⟨rfl, rfl⟩
    gi_wp2
    obtain ⟨s1, hs1⟩ : ∃ s1, w1.heap.size = s1 := ⟨_, rfl⟩
    have hsa : ∀ o, (w1.alloc o).heap.size = s1 + 1 := fun o => by rw [World.size_alloc, hs1]
    simp only [hs1, hsa]
    obtain ⟨W0, hW0⟩ : ∃ W0, ((w1.alloc (.cells #[.slice none 0 0] 52)).alloc (.cells #[.int .u32 (top : Nat)] 34)).alloc (.cells #[.slice A m cap] 40) = W0 := ⟨_, rfl⟩
    have hz0 : W0.heap.size = s1 + 3 := by rw [← hW0, World.size_alloc, World.size_alloc, World.size_alloc, hs1]
    have hbB := HB.out.1.size
    rw [hs1] at hbB
    have hb10 : Below s1 w1 W0 := by
      rw [← hW0, ← hs1]
      exact (((Below.refl _ w1).alloc (Nat.le_refl _) _).alloc (by rw [World.size_alloc]; omega) _).alloc (by rw [World.size_alloc, World.size_alloc]; omega) _
    obtain ⟨Z0, hZ0⟩ : ∃ Z0 : List (Nat × Obj), Z0 = [(s1 + 1, .cells #[.int .u32 (top : Nat)] 34), (s1 + 2, .cells #[.slice A m cap] 40)] := ⟨_, rfl⟩
    have hj0 : NJ w w.heap.size s1 Z0 [] W0 := by
      refine ⟨⟨.slice none 0 0, ?_, Buf.nil _ _ _, by simp [Value.ownBlock], by simp [Value.ownBlock], fun _ => rfl⟩, HB.out.1.trans (hb10.mono hbB), fun z hz => ?_, hbB⟩
      rotate_left
      · rw [hZ0] at hz
        simp only [List.mem_cons, List.not_mem_nil, or_false] at hz
        rcases hz with rfl | rfl
        · refine ⟨?_, by simp only; omega, rfl⟩
          have := (Boxed.new (w1.alloc (.cells #[.slice none 0 0] 52)) 34 (.int .u32 (top : Nat))).alloc (.cells #[.slice A m cap] 40)
          rw [hW0, World.size_alloc, hs1] at this
          exact this
        · refine ⟨?_, by simp only; omega, rfl⟩
          have := Boxed.new ((w1.alloc (.cells #[.slice none 0 0] 52)).alloc (.cells #[.int .u32 (top : Nat)] 34)) 40 (.slice A m cap)
          rw [hW0, World.size_alloc, World.size_alloc, hs1] at this
          exact this
      have := ((Boxed.new w1 52 (.slice none 0 0)).alloc (.cells #[.int .u32 (top : Nat)] 34)).alloc (.cells #[.slice A m cap] 40)
      rw [hW0, hs1] at this
      exact this
    rw [hW0]
    have HJ0 := Lib.hid (And.intro hj0 (And.intro hZ0 hz0))
    have HS := Lib.hid hs1
    clear hj0 hZ0 hW0 hb10 hsa hs1
    refine wpIn_rangeFunc_state rfl (by decide) (gf := 101) (lb := #[.pointer (some ⟨s1 + 2, 0, none⟩), .pointer (some ⟨s1 + 1, 0, none⟩)]) rfl trivial (enters_of Tryz.func101 (by kernel_rfl) rfl) (encs := fun x : Rng => #[.agg #[.int .u32 (x.lo : Nat), .int .u32 (x.hi : Nat)]]) (fun _ => rfl)
      (fun (i : List (Nat × Obj) × List Rng) W => NJ w w.heap.size s1 i.1 (numsL i.2) W) (fun i x i' => MGo top l i.2 x ∧ i' = (i.1, i.2 ++ [x])) (fun i => MOut top l i.2) (Z0, [])
      (fun i W lx o o' hl hh ho hj => hj.put o' (by omega) hh ho) (fun rr => (HJ0.out.1.grow ((Below.refl _ W0).alloc (Nat.le_refl _) _)).grow ((Below.refl _ _).alloc (Nat.le_refl _) _))
      (fun i x i' a1 W => (MGo top l i.2 x ∧ i' = (i.1, i.2 ++ [x])) ∧ ∃ fb, NJ w w.heap.size s1 ((fb, .cells #[.int .u32 (x.lo : Nat), .int .u32 (x.hi : Nat)] 128) :: i.1) (numsL i.2) W ∧ a1 =
        { tmps := #[.int .u32 (top : Nat), .slice A m cap, undef, undef, .slice none 0 0, .pointer (some ⟨s1, 0, none⟩), .pointer (some ⟨fb, 0, none⟩), undef, .int .u32 (top : Nat), .slice A m cap, .bool true, .bool false, .int .u32 (top : Nat), .slice A m cap,
            .func (.func 101) #[] #[.pointer (some ⟨s1 + 2, 0, none⟩), .pointer (some ⟨s1 + 1, 0, none⟩)], .agg #[.int .u32 (x.lo : Nat), .int .u32 (x.hi : Nat)], undef, undef, undef, undef, undef, undef, undef, undef, undef, undef, undef, undef, undef], defers := [] })
      (fun i x i' a1 W lx o o' hl hh ho ⟨ht, fb, hj, ha⟩ => ⟨ht, fb, hj.put o' (by omega) hh ho, ha⟩) ?assign ?body ?hit ?done
    case assign =>
      intro lx i x i' W K hj ht hsz hK
      have HK := Lib.hid hK
      have HT := Lib.hid (And.intro hj ht)
      clear hK hj ht
      gi_wp2
      exact HK.out _ _ (KeepsOthers.alloc W _) ⟨HT.out.2, W.heap.size, HT.out.1.add ((Below.refl _ W).alloc (Nat.le_refl _) _) (Nat.le_refl _) (heap_alloc_new W _) rfl, rfl⟩
    case body =>
      rintro lx i x i' a1 W ⟨⟨hgo, rfl⟩, fb, hj, rfl⟩ hsz
      obtain ⟨b1, b2, b3, b4⟩ := mgo_bound HB.out.2 (by omega) hgo
      obtain ⟨lo, hi⟩ := x
      simp only at b1 b2 b3 b4 hj ⊢
      have hblk : Blk W fb 128 #[.int .u32 (lo : Nat), .int .u32 (hi : Nat)] := hj.at_
      have d0 : W.cell? ⟨fb, 0, none⟩ = some (.int .u32 (lo : Nat)) := hblk.cell 0
      have hhI : (hi : Int) ≤ 1048576 := by omega
      have HJ := Lib.hid hj
      have HG := Lib.hid (And.intro b4 hblk)
      clear hj b4 hgo hblk
      gi_wp2
      gi_loopw [7] (fun s7 wr => ∃ q : Nat, s7 = .int .u32 q ∧ lo ≤ q ∧ q ≤ hi + 1 ∧ NJ w w.heap.size s1 ((fb, .cells #[.int .u32 (lo : Nat), .int .u32 (hi : Nat)] 128) :: i.1) (numsL i.2 ++ nums lo (q - 1)) wr ∧ KeepsOthers W wr) (fun s7 _ => hi + 1 - (intOf s7).toNat)
      case atStart =>
        refine ⟨lo, rfl, Nat.le_refl _, by omega, ?_, KeepsOthers.refl _⟩
        rw [nums_none (by omega), List.append_nil]
        exact HJ.out
      case round =>
        obtain ⟨q, rfl, hq1, hq2, hj, hko⟩ := hrel
        have hblk : Blk wr fb 128 #[.int .u32 (lo : Nat), .int .u32 (hi : Nat)] := hj.at_
        have d1 : wr.cell? ⟨fb, 1, none⟩ = some (.int .u32 (hi : Nat)) := hblk.cell 1
        clear hblk d0
        by_cases hqh : q ≤ hi
        · have hqhI : (q : Int) ≤ hi := by omega
          have hlen : (numsL i.2 ++ nums lo (q - 1)).length ≤ 1048576 := by
            rw [List.length_append, nums_len]
            have := HG.out.1
            omega
          obtain ⟨nq, hnq⟩ : ∃ nq, numsL i.2 ++ nums lo (q - 1) = nq := ⟨_, rfl⟩
          rw [hnq] at hj hlen
          obtain ⟨v, g, o, c, w', hv, hrun, hv2, hj2, hk2⟩ := hj.push q hlen
          have HNQ := Lib.hid hnq
          clear hnq
          have c0 := hv.cell
          have c1 := hv2.cell
          have f1 := hv2.frozen
          have hwr : IntKind.u32.wrap ((q : Int) + 1) = (q : Int) + 1 := by simp [IntKind.wrap, IntKind.bits, IntKind.signed]; omega
          have HRn := Lib.hid hrun
          have HE := Lib.hid (And.intro (hko.trans hk2) hj2)
          clear hrun hj hko hj2 hk2 hv hv2 hlen
          gi_wp2_with (gi_at_builtin; refine wpListIn_append_runR _ rfl (.tmp 24) (.tmp 26) _ _ rfl _ _ rfl rfl _ _ HRn.out ?_)
          go_roundw
          case rel =>
            refine ⟨q + 1, by simp, by omega, by omega, ?_, HE.out.1⟩
            have e : numsL i.2 ++ nums lo (q + 1 - 1) = nq ++ [q] := by
              rw [← HNQ.out, List.append_assoc, show q + 1 - 1 = (q - 1) + 1 by omega, nums_snoc (by omega), show q - 1 + 1 = q by omega]
            rw [e]
            exact HE.out.2
          case measure => simp [intOf]; omega
        · have hq : q = hi + 1 := by omega
          subst hq
          have hqhI : decide (((hi + 1 : Nat) : Int) ≤ hi) = false := decide_eq_false (by omega)
          have hqhp : ¬ (((hi + 1 : Nat) : Int) ≤ hi) := by omega
          have HE := Lib.hid (And.intro hko hj)
          clear hko hj
          gi_wp2
          refine ⟨HE.out.1, ?_⟩
          have := HE.out.2.weak
          rw [Nat.add_sub_cancel] at this
          unfold numsL
          rw [List.flatMap_append]
          simpa [numsL] using this
    case hit =>
      intro R W1 hRR hRs hY hJ hR1
      have hZ0 := HJ0.out.2.1
      have hbt : W1.heap[s1 + 1]? = some (.cells #[.int .u32 (top : Nat)] 34) := (hJ.prot (s1 + 1, .cells #[.int .u32 (top : Nat)] 34) (by rw [hZ0]; simp)).1
      have hbl : W1.heap[s1 + 2]? = some (.cells #[.slice A m cap] 40) := (hJ.prot (s1 + 2, .cells #[.slice A m cap] 40) (by rw [hZ0]; simp)).1
      have hbt' : Boxed W1 (s1 + 1) 34 (.int .u32 (top : Nat)) := hbt
      have hbl' : Boxed W1 (s1 + 2) 40 (.slice A m cap) := hbl
      have hl0 : 0 < l.length := by
        have := HB.out.2
        cases l with
        | nil => simp [validB] at this
        | cons a t => simp
      refine (merged1_in (6 - 1) (by decide) (W0.heap.size + 1) (s1 + 1) (s1 + 2) top (by omega) l (.slice A m cap) (by have := HR.out.2.1; have := HR.out.2.2; omega) hl0 (fun zs ys W => NJ w w.heap.size s1 (zs ++ Z0) (numsL ys) W ∧ W0.heap.size + 2 ≤ W.heap.size) R
        (fun W W' hr hb => hRR W W' hr (fun k hk => hb.block k (by have := hRs W hr; omega)))
        (fun zs ys W W' hj hb => ⟨hj.1.grow hb, Nat.le_trans hj.2 hb.size⟩) (fun zs ys W W' k o hj hb hk ho hc => ⟨hj.1.add hb hk ho hc, Nat.le_trans hj.2 hb.size⟩) (fun z zs ys W hj => ⟨hj.1.weak, hj.2⟩) (fun z zs ys W hj => hj.1.at_)
        (fun zs ys x W hj hr hg => (hY (zs ++ Z0, ys) x (zs ++ Z0, ys ++ [x]) W hj.1 hr ⟨hg, rfl⟩).mono fun e W' ⟨h1, h2, h3⟩ => ⟨h1, ⟨h2, by have := hRs W' h3; omega⟩, h3⟩) W1 hbt'.cell hbt'.lt hbl'.cell hbl'.lt
        ((HR.out.1.below hJ.low (Nat.le_refl _)).mono hJ.low.size) ⟨hJ, by have := hRs W1 hR1; omega⟩ hR1).mono ?_
      rintro e W' ⟨hv, zs, ys, h1, h2, h3⟩
      exact ⟨hv, (zs ++ Z0, ys), h1, h2.1, h3⟩
    case done =>
      rintro i W hS hj hK
      obtain ⟨v, hv, hbf, -, -, -⟩ := hj.box
      have c0 := hv.cell
      have HJ := Lib.hid (And.intro hS (And.intro hj (And.intro hK hv)))
      clear hS hj hK hv hbf hz0
      gi_wp2
      obtain ⟨hS, hj, hK, hv⟩ := HJ.out
      refine ⟨by simp, .inl ⟨_, _, rfl, run_takeDeferred hK, ?_⟩⟩
      have hj2 := hj.put (.deferred none) (by have := HJ0.out.2.2; omega) hK rfl
      obtain ⟨v2, hv2, hbf2, -, -, -⟩ := hj2.box
      have hv3 : Boxed (W.putObj W0.heap.size (.deferred none)) s1 52 v := (World.putObj_heap_other (by have := HJ0.out.2.2; omega)).trans hv
      have e : v2 = v := by
        have := hv2.cell.symm.trans hv3.cell
        simpa using this
      subst e
      rw [mout_nums HB.out.2 (by omega) hS] at hbf2
      exact ⟨_, results_tmp rfl _ _ _, v2, rfl, hbf2, hj2.low⟩
end Go.Proofs.YtamholmjppgfiaaGreatDoor
