/- seqset.Numbers. -/
import Derived.Test.YtpcffnhbodjpbaaGreatDoorRgC
import Derived.Test.YtpcffnhbodjpbaaGreatDoorRan33
set_option linter.unusedVariables false
set_option linter.unusedSimpArgs false
namespace Go.Proofs.YtpcffnhbodjpbaaGreatDoor
open Go Go.RowKit Go.Shelf Go.Lib Go.Sort
attribute [local go_sem] Oper.semAt_some

theorem mrg_mem {M : Nat} : ∀ (P : List Rng) (nx : Nat) (x : Rng), x ∈ mrg M nx P → ∃ r ∈ P, x.hi = r.hi ∧ x.lo ≤ x.hi ∧ nx ≤ x.lo
  | [], _, _, h => by simp [mrg] at h
  | ⟨a, c⟩ :: P, nx, x, h => by
    rw [mrg_cons] at h
    by_cases hs : c < max a nx
    · rw [if_pos hs] at h
      obtain ⟨r, hr, h1, h2, h3⟩ := mrg_mem P nx x h
      exact ⟨r, List.mem_cons_of_mem _ hr, h1, h2, h3⟩
    · rw [if_neg hs, List.mem_cons] at h
      rcases h with rfl | h
      · exact ⟨⟨a, c⟩, List.mem_cons_self, rfl, by simp only; omega, by simp only; omega⟩
      · by_cases hm : c = M
        · rw [if_pos hm] at h; simp at h
        · rw [if_neg hm] at h
          obtain ⟨r, hr, h1, h2, h3⟩ := mrg_mem P (c + 1) x h
          exact ⟨r, List.mem_cons_of_mem _ hr, h1, h2, by omega⟩
/-- The numbers of the ranges ys. -/
def numsL (ys : List Rng) : List Nat := ys.flatMap fun r => nums r.lo r.hi
theorem mout_nums {top : Nat} {l : List RB} {ys : List Rng} (hv : validB top (l.map RB.rng) = true) (ht : top < 4294967296) (h : MOut top l ys) : numsL ys = numsOf top (l.map RB.rng) := by
  obtain ⟨P, hp, hs, rfl⟩ := h
  exact merged_nums hv hp hs (by omega)
theorem numsOf_len (top : Nat) (l : List Rng) : (numsOf top l).length ≤ top := by
  unfold numsOf
  split
  · have := List.length_filter_le (fun n => anyR n (l.map (plainR top))) (nums 1 top)
    rw [nums_len] at this
    omega
  · simp
theorem mgo_bound {top : Nat} {l : List RB} {ys : List Rng} {x : Rng} (hv : validB top (l.map RB.rng) = true) (ht : top < 4294967296) (h : MGo top l ys x) : 1 ≤ x.lo ∧ x.lo ≤ x.hi ∧ x.hi ≤ top ∧ (numsL ys).length + (x.hi + 1 - x.lo) ≤ top := by
  obtain ⟨P, rest, hp, hs, he⟩ := h
  have hx : x ∈ mrg 4294967295 1 P := by rw [← he]; simp
  obtain ⟨r, hr, h1, h2, h3⟩ := mrg_mem P 1 x hx
  obtain ⟨y, hy, rfl⟩ := List.mem_map.1 (hp.mem_iff.1 hr)
  obtain ⟨v1, v2⟩ := valid_mem hv y hy
  have h4 := (plain_le v1 v2).2
  refine ⟨h3, h2, by omega, ?_⟩
  have e := mout_nums hv ht ⟨P, hp, hs, he⟩
  have hl := numsOf_len top (l.map RB.rng)
  rw [← e] at hl
  unfold numsL at hl ⊢
  rw [List.flatMap_append, List.flatMap_cons, List.length_append, List.length_append, nums_len] at hl
  omega
theorem nums_snoc {a b : Nat} (h : a ≤ b + 1) : nums a (b + 1) = nums a b ++ [b + 1] := by
  rw [nums_cut (a := a) (b := b) (c := b + 1) h (by omega)]
  congr 1
  unfold nums
  rw [show b + 1 + 1 - (b + 1) = 1 by omega]
  rfl

theorem buf_pos {w : World} {B size n : Nat} {v : Value} {xs : List Value} (h : Buf w B size v (n + 1) xs) : ∃ g o c, v = .slice (some ⟨g, o, none⟩) (n + 1) c := by
  obtain ⟨_, h2⟩ := h
  cases h2 with
  | inl h => exact absurd h.2 (Nat.succ_ne_zero n)
  | inr h =>
    obtain ⟨g, o, c, e, _⟩ := h
    exact ⟨g, o, c, e⟩
def n32 (n : Nat) : Value := .int .u32 (n : Nat)
/-- Numbers between two steps: the numbers ns have come; the blocks zs are another's. -/
structure NJ (w0 : World) (B ob : Nat) (zs : List (Nat × Obj)) (ns : List Nat) (W : World) : Prop where
  box : ∃ v, Boxed W ob 37 v ∧ Buf W B 1 v ns.length (ns.map n32) ∧ v.ownBlock ≠ some ob ∧ (∀ z ∈ zs, v.ownBlock ≠ some z.1) ∧ (ns = [] → v = .slice none 0 0)
  low : Below B w0 W
  prot : ∀ z ∈ zs, W.heap[z.1]? = some z.2 ∧ z.1 ≠ ob ∧ z.2.isCells = true
  lob : B ≤ ob
section
variable {w0 W W' : World} {B ob : Nat} {zs : List (Nat × Obj)} {ns : List Nat}
theorem NJ.lt (h : NJ w0 B ob zs ns W) : ob < W.heap.size := by obtain ⟨v, hv, _⟩ := h.box; exact hv.lt
theorem NJ.grow (h : NJ w0 B ob zs ns W) (hb : Below W.heap.size W W') : NJ w0 B ob zs ns W' := by
  obtain ⟨v, hv, hbf, h1, h2, h3⟩ := h.box
  refine ⟨⟨v, (hb.block ob hv.lt).trans hv, hbf.below hb (Nat.le_refl _), h1, h2, h3⟩, h.low.trans (hb.mono (by have := hv.lt; have := h.lob; omega)), fun z hz => ?_, h.lob⟩
  obtain ⟨e, e2⟩ := h.prot z hz
  exact ⟨(hb.block z.1 (Array.getElem?_eq_some_iff.1 e).1).trans e, e2⟩
theorem NJ.add (h : NJ w0 B ob zs ns W) (hb : Below W.heap.size W W') {k : Nat} {o : Obj} (hk : W.heap.size ≤ k) (ho : W'.heap[k]? = some o) (hc : o.isCells = true) : NJ w0 B ob ((k, o) :: zs) ns W' := by
  have hlt := h.lt
  obtain ⟨v, hv, hbf, h1, h2, h3⟩ := h.box
  have h' := h.grow hb
  have hown : v.ownBlock ≠ some k := by
    rcases hbf.2 with ⟨rfl, _⟩ | ⟨g, off, cap, rfl, _, hg, _⟩
    · simp [Value.ownBlock]
    · simp [Value.ownBlock]; omega
  refine ⟨⟨v, (hb.block ob hv.lt).trans hv, hbf.below hb (Nat.le_refl _), h1, fun z hz => ?_, h3⟩, h'.low, fun z hz => ?_, h.lob⟩
  · rcases List.mem_cons.1 hz with rfl | hz
    · exact hown
    · exact h2 z hz
  · rcases List.mem_cons.1 hz with rfl | hz
    · exact ⟨ho, by simp only; omega, hc⟩
    · exact h'.prot z hz
theorem NJ.weak {z : Nat × Obj} (h : NJ w0 B ob (z :: zs) ns W) : NJ w0 B ob zs ns W := by
  obtain ⟨v, hv, hbf, h1, h2, h3⟩ := h.box
  exact ⟨⟨v, hv, hbf, h1, fun z hz => h2 z (List.mem_cons_of_mem _ hz), h3⟩, h.low, fun z hz => h.prot z (List.mem_cons_of_mem _ hz), h.lob⟩
theorem NJ.at_ {z : Nat × Obj} (h : NJ w0 B ob (z :: zs) ns W) : W.heap[z.1]? = some z.2 := (h.prot z List.mem_cons_self).1
theorem NJ.put (h : NJ w0 B ob zs ns W) {l : Nat} {o : Obj} (o' : Obj) (hl : B ≤ l) (hh : W.heap[l]? = some o) (ho : o.isCells = false) : NJ w0 B ob zs ns (W.putObj l o') := by
  have hlt := h.lt
  obtain ⟨v, hv, hbf, h1, h2, h3⟩ := h.box
  have hg := grownBy_putObj' W l o'
  have hcl : ∀ (k : Nat) (u : Obj), W.heap[k]? = some u → u.isCells = true → k ≠ l := fun k u hk hu e => by
    subst e
    rw [hh] at hk
    injection hk with hk
    subst hk
    rw [ho] at hu
    cases hu
  have hown : ∀ k, v.ownBlock = some k → some k ≠ some l := fun k e e2 => by
    injection e2 with e2
    subst e2
    rcases hbf.2 with ⟨rfl, _⟩ | ⟨g, off, cap, rfl, _, hg, hn, hc, hs⟩
    · cases e
    · have e' : g = k := by simpa [Value.ownBlock] using e
      subst e'
      cases hns : ns with
      | nil => have := h3 hns; cases this
      | cons a t =>
        have := (hs 0 (by rw [hns] at hn; simp only [List.length_cons] at hn; omega)).1
        obtain ⟨u, hu⟩ := Option.isSome_iff_exists.1 this
        obtain ⟨o2, ho2, hc2⟩ := cells_obj hu
        exact hcl _ _ ho2 hc2 rfl
  refine ⟨⟨v, hv.kept hg (fun e => by injection e with e; exact hcl ob _ hv rfl e), hbf.grown hg hown, h1, h2, h3⟩, h.low.grown hg (by have := h.lob; omega) (fun k e => by injection e with e; omega), fun z hz => ?_, h.lob⟩
  obtain ⟨e, e2, e3⟩ := h.prot z hz
  exact ⟨(World.putObj_heap_other (hcl _ _ e e3)).trans e, e2, e3⟩
set_option maxRecDepth 100000 in
theorem NJ.push (h : NJ w0 B ob zs ns W) (x : Nat) (hl : ns.length ≤ 1048576) : ∃ v g o c w', Boxed W ob 37 v ∧
    (Builtin.append_ #[37, 37] 37 #[v, .slice (some ⟨W.heap.size, 0, none⟩) 1 1]).run Tryz.prog (W.alloc (.cells #[.int .u32 (x : Nat)] 30)) = .ok (.slice (some ⟨g, o, none⟩) (ns.length + 1) c) w' ∧
    Boxed w' ob 37 v ∧ NJ w0 B ob zs (ns ++ [x]) (w'.setCell ⟨ob, 0, none⟩ (.slice (some ⟨g, o, none⟩) (ns.length + 1) c)) ∧ KeepsOthers W (w'.setCell ⟨ob, 0, none⟩ (.slice (some ⟨g, o, none⟩) (ns.length + 1) c)) := by
  have hlt := h.lt
  have hlo := h.lob
  have hq := h.grow ((Below.refl W.heap.size W).alloc (Nat.le_refl _) (.cells #[.int .u32 (x : Nat)] 30))
  obtain ⟨v0, hv0, hbf0, -, -, -⟩ := h.box
  obtain ⟨v, hv, hbf, h1, h2, h3⟩ := hq.box
  obtain ⟨i0, hi, hz0, hz1, hz2⟩ := info_parts infoU32
  obtain ⟨v', w', hrun, hb', hgr, hrw⟩ := run_append_buf (P := Tryz.prog) (W.alloc (.cells #[.int .u32 (x : Nat)] 30)) 37 37 30 i0 _ 1 4 Tryz.underlying37 hi hz0 hz1 hz2 rfl (by decide) B v ns.length _ hbf (some ⟨W.heap.size, 0, none⟩) 1 1 [.int .u32 (x : Nat)]
    ⟨rfl, fun u hu => by simp at hu; subst hu; rfl, fun _ => ⟨_, rfl, fun j u hj => by
      rw [Go.WideShapes.add_plain]
      simp only [World.cell?, heap_alloc_new, Nat.zero_add]
      simpa using hj⟩⟩ (by unfold maxLen; omega) (by omega) (by rw [World.size_alloc]; omega)
  have hvW : Boxed W ob 37 v := (Below.heap_alloc W _ ob hlt).symm.trans hv
  have hown : ∀ k, v.ownBlock = some k → B ≤ k ∧ k < W.heap.size + 1 := fun k e => by
    rcases hbf.2 with ⟨rfl, _⟩ | ⟨g, off, cap, rfl, a1, a2, _⟩
    · cases e
    · have e' : g = k := by simpa [Value.ownBlock] using e
      rw [World.size_alloc] at a2
      omega
  have hv1 : Boxed w' ob 37 v := hv.kept hgr (fun e => h1 e.symm)
  have hnew : ∀ k, k < W.heap.size → v.ownBlock ≠ some k → v'.ownBlock ≠ some k := fun k hk hne e => by
    rcases hrw with e2 | ⟨g, e2, hg⟩
    · exact hne (e2 ▸ e)
    · rw [e2] at e
      injection e with e
      rw [World.size_alloc] at hg
      omega
  have hcell : ∀ (j : Nat) (o : Obj), v.ownBlock = some j → (W.alloc (.cells #[.int .u32 (x : Nat)] 30)).heap[j]? = some o → o.isCells = true := fun j o e ho => by
    rcases hbf.2 with ⟨rfl, _⟩ | ⟨g, off, cap, rfl, _, hg, hn, hc, hs⟩
    · cases e
    · have e' : g = j := by simpa [Value.ownBlock] using e
      subst e'
      cases hns : ns with
      | nil => have := h3 hns; cases this
      | cons a t =>
        have := (hs 0 (by rw [hns] at hn; simp only [List.length_cons] at hn; omega)).1
        obtain ⟨u, hu⟩ := Option.isSome_iff_exists.1 this
        obtain ⟨o2, ho2, hc2⟩ := cells_obj hu
        rw [ho] at ho2
        injection ho2 with ho2
        rw [ho2]; exact hc2
  obtain ⟨g, o, c, rfl⟩ := buf_pos hb'
  have hput := grownBy_setCell' w' ob (.slice (some ⟨g, o, none⟩) (ns.length + 1) c)
  have hob' := hnew ob hlt h1
  have hlow : Below B w0 w' := hq.low.grown hgr (by rw [World.size_alloc]; omega) (fun k e => (hown k e).1)
  refine ⟨v, g, o, c, w', hvW, hrun, hv1, ⟨⟨_, hv1.set _, ?_, hob', fun z hz => ?_, fun e => by simp at e⟩, hlow.grown hput (by have := hlow.size; have := hgr.size; rw [World.size_alloc] at this; omega) (fun k e => by injection e with e; omega), fun z hz => ?_, hlo⟩,
    ((KeepsOthers.alloc W _).trans (KeepsOthers.of_grownBy hgr hcell)).trans (KeepsOthers.setCell _ _ _)⟩
  · have hbb := hb'.grown hput (fun k e e2 => by injection e2 with e2; subst e2; exact hob' e)
    rw [List.length_append, List.map_append]
    exact hbb
  · exact hnew z.1 (Array.getElem?_eq_some_iff.1 (h.prot z hz).1).1 (h2 z hz)
  · obtain ⟨e, e2, e3⟩ := hq.prot z hz
    refine ⟨(hput.block z.1 ?_ (fun e4 => by injection e4 with e4; exact e2 e4)).trans ((hgr.block z.1 (Array.getElem?_eq_some_iff.1 e).1 (fun e4 => h2 z hz e4.symm)).trans e), e2, e3⟩
    exact Nat.lt_of_lt_of_le (Array.getElem?_eq_some_iff.1 e).1 hgr.size
end

set_option maxHeartbeats 1000000 in
theorem merged_any (top : Int) (A : Option Addr) (n cap : Nat) (w : World) :
    Calls Tryz.prog 33 #[.int .u32 top, .slice A n cap] w fun e w' => e = .returned (.func (.func 48) #[] #[.pointer (some ⟨w.heap.size + 1, 0, none⟩), .pointer (some ⟨w.heap.size, 0, none⟩)]) ∧ w' = (w.alloc (.cells #[.int .u32 top] 30)).alloc (.cells #[.slice A n cap] 22) := by
  go_enter Tryz.func33, Tryz.ntmps33
  go_wp2_with fail
  go_ret
  exact ⟨rfl, rfl⟩
end Go.Proofs.YtpcffnhbodjpbaaGreatDoor
