/- The merge of a set's ranges: the iterator. -/
import Derived.Test.YtpcffnhbodjpbaaGreatDoorRgA
import Derived.Test.YtpcffnhbodjpbaaGreatDoorBufO
import Derived.RangeFuncNested
import Derived.RangeFuncBound
import Derived.RangeFuncCalls
import Derived.RangeFuncLeaves
import Derived.OwnWalkIn
import Derived.Deep.RegionHeld3
import Derived.Stop.RegionWithIn
import Derived.TacticsInMore
import Derived.LoopNIn
import Derived.LoopIn
import Derived.Shelf.Abstract
import Derived.Shelf.RegionOpen
set_option linter.unusedVariables false
set_option linter.unusedSimpArgs false
namespace Go.Proofs.YtpcffnhbodjpbaaGreatDoor
open Go Go.RowKit Go.Shelf Go.Lib Go.Sort
attribute [local go_sem] Oper.semAt_some

abbrev RB := Fin 4294967296 × Fin 4294967296
def RB.rng (x : RB) : Rng := ⟨x.1.val, x.2.val⟩
def encB (x : RB) : List Value := encR x.rng
theorem plain_lt {top : Nat} (ht : top < 4294967296) (x : RB) : (plainR top x.rng).lo < 4294967296 ∧ (plainR top x.rng).hi < 4294967296 := by
  obtain ⟨⟨a, ha⟩, ⟨b, hb⟩⟩ := x
  unfold plainR realN RB.rng
  simp only
  split <;> split <;> omega
def plainB (top : Nat) (ht : top < 4294967296) (x : RB) : RB := (⟨(plainR top x.rng).lo, (plain_lt ht x).1⟩, ⟨(plainR top x.rng).hi, (plain_lt ht x).2⟩)
theorem plainB_rng (top : Nat) (ht : top < 4294967296) (x : RB) : (plainB top ht x).rng = plainR top x.rng := rfl

theorem flat_len (l : List RB) : (l.flatMap encB).length = l.length * 2 := by
  induction l with
  | nil => rfl
  | cons x l ih => rw [List.flatMap_cons, List.length_append, ih, List.length_cons, show (encB x).length = 2 from rfl]; omega
theorem flat_get : ∀ (l : List RB) (j : Nat) (x : RB), l[j]? = some x → (l.flatMap encB)[j * 2]? = some (.int .u32 x.rng.lo) ∧ (l.flatMap encB)[j * 2 + 1]? = some (.int .u32 x.rng.hi)
  | [], _, _, h => by simp at h
  | y :: l, 0, x, h => by
    simp only [List.getElem?_cons_zero, Option.some.injEq] at h
    subst h
    exact ⟨rfl, rfl⟩
  | y :: l, j + 1, x, h => by
    have := flat_get l j x (by simpa using h)
    rw [List.flatMap_cons, List.getElem?_append_right (by rw [show (encB y).length = 2 from rfl]; omega), List.getElem?_append_right (by rw [show (encB y).length = 2 from rfl]; omega), show (encB y).length = 2 from rfl, show (j + 1) * 2 - 2 = j * 2 by omega, show (j + 1) * 2 + 1 - 2 = j * 2 + 1 by omega]
    exact this
theorem holdsK_of_buf {W : World} {base g off cap n : Nat} {l : List RB} (hn : l.length = n) (h : Buf W base 2 (.slice (some ⟨g, off, none⟩) n cap) n (l.flatMap encB)) : HoldsK encB 2 W g off l.toArray := by
  subst hn
  rcases h.2 with ⟨e, _⟩ | ⟨g', off', cap', e, h1, h2, h3, h4, h5⟩
  · cases e
  · injection e with e1 _ e3
    injection e1 with e1
    injection e1 with e4 e5 _
    subst e4 e5 e3
    intro t ht
    have ht' : t < l.length * 2 := by simpa using ht
    refine ⟨?_, (h5 t (by omega)).2⟩
    rw [get_flatK _ _ _ t (by simpa using ht'), id]
    have hj : t / 2 < l.length := by omega
    obtain ⟨x, hx⟩ : ∃ x, l[t / 2]? = some x := ⟨_, List.getElem?_eq_getElem hj⟩
    obtain ⟨e0, e1⟩ := flat_get l (t / 2) x hx
    have hx : l.toArray[t / 2]! = x := by
      have := (List.getElem?_eq_some_iff.1 hx).2
      simp [getElem!_pos, hj, this]
    rw [hx]
    rcases (by omega : t % 2 = 0 ∨ t % 2 = 1) with h0 | h0
    · have := h4 _ _ e0
      rw [show off + t / 2 * 2 = off + t by omega] at this
      rw [h0, this]
      rfl
    · have := h4 _ _ e1
      rw [show off + (t / 2 * 2 + 1) = off + t by omega] at this
      rw [h0, this]
      rfl

theorem cmp_any (x y : RB) (W : World) : Calls Tryz.prog 51 #[.agg #[.int .u32 x.rng.lo, .int .u32 x.rng.hi], .agg #[.int .u32 y.rng.lo, .int .u32 y.rng.hi]] W fun e w' => e = .returned (.int .i64 ((x.1.val : Int) - y.1.val)) ∧ ∃ q os', w' = grow (W.drewN q) os' := by
  obtain ⟨⟨a, ha⟩, b⟩ := x
  obtain ⟨⟨c, hc⟩, d⟩ := y
  have haI : (a : Int) < 4294967296 := by omega
  have hcI : (c : Int) < 4294967296 := by omega
  have w1 : IntKind.i64.wrap (a : Int) = a := by simp [IntKind.wrap, IntKind.bits, IntKind.signed]; omega
  have w2 : IntKind.i64.wrap (c : Int) = c := by simp [IntKind.wrap, IntKind.bits, IntKind.signed]; omega
  have w3 : IntKind.i64.wrap ((a : Int) - c) = (a : Int) - c := by simp [IntKind.wrap, IntKind.bits, IntKind.signed]; omega
  unfold RB.rng
  go_enter Tryz.func51, Tryz.ntmps51
  go_wp2_with fail
  go_ret
  exact ⟨rfl, 0, _, by rw [Sort.alloc_eq_grow, Sort.alloc_eq_grow, Sort.grow_grow]; rfl⟩
theorem cmp_lays (blk off size : Nat) (w : World) : CmpLays Tryz.prog 51 #[] encB 2 (fun x y => (x.1.val : Int) - y.1.val) blk off size w := fun _ _ _ _ x y => cmp_any x y _
theorem ltOf_lo (x y : RB) : ltOf (fun x y : RB => (x.1.val : Int) - y.1.val) x y = decide (x.1.val < y.1.val) := by
  unfold ltOf
  by_cases h : x.1.val < y.1.val
  · rw [decide_eq_true h, decide_eq_true (show (x.1.val : Int) - y.1.val < 0 by omega)]
  · rw [decide_eq_false h, decide_eq_false (show ¬ (x.1.val : Int) - y.1.val < 0 by omega)]
theorem swo_lo : Sort.SWO (ltOf fun x y : RB => (x.1.val : Int) - y.1.val) where
  irrefl x := by rw [ltOf_lo]; simp
  trans x y z h1 h2 := by rw [ltOf_lo] at *; simp at *; omega
  ntrans x y z h1 h2 := by rw [ltOf_lo] at *; simp at *; omega
theorem putRow_below {α : Type} [Inhabited α] (enc : α → Value) (w : World) (q blk off B : Nat) (d : Array α) (hB : B ≤ blk) : Below B w (Sort.putRow enc (Sort.ahead w q) blk off d) :=
  ⟨rfl, rfl, rfl, by simp [Sort.putRow, Sort.mapBlock, Sort.ahead], fun k hk => by
    have : blk ≠ k := by omega
    simp [Sort.putRow, Sort.mapBlock, Sort.ahead, Array.getElem?_modify, this]⟩
theorem grow_below (w : World) (os : Array Obj) {B : Nat} (hB : B ≤ w.heap.size) : Below B w (Sort.grow w os) :=
  ⟨rfl, rfl, rfl, by simp [Sort.grow], fun k hk => Sort.heap_grow_old w os (by omega)⟩
/-- The sort of the ranges, as the iterator calls it. -/
theorem sortF_any {base g off cap n : Nat} {l : List RB} {W : World} (hn : l.length = n) (h : Buf W base 2 (.slice (some ⟨g, off, none⟩) n cap) n (l.flatMap encB)) (hg : g < W.heap.size) (hbg : base ≤ g) (hb : base ≤ W.heap.size) (hl : n ≤ 1048576) :
    Calls Tryz.prog 50 #[.slice (some ⟨g, off, none⟩) n cap, .func (.func 51) #[] #[]] W fun e w' =>
      e = .returned (.tuple #[]) ∧ Below base W w' ∧ ∃ p : List RB, p.Perm l ∧ sortedR (p.map RB.rng) ∧ ∀ j x, p[j]? = some x → w'.cell? ⟨g, off + j * 2, none⟩ = some (.int .u32 x.rng.lo) ∧ w'.cell? ⟨g, off + j * 2 + 1, none⟩ = some (.int .u32 x.rng.hi) := by
  have hH := holdsK_of_buf hn h
  subst hn
  have eg : ∀ args w, (callFunc 51 args).run Tryz.prog w = .ok (.enter 51 args) w := enters_of Tryz.func51 (by kernel_rfl) rfl
  have hcon := AnyQ.slices_SortFunc Tryz.lSortF 2 Tryz.isAgg32 Tryz.sizeOf32 encB (fun _ => rfl) (fun x v hv => by simp [encB, encR] at hv; rcases hv with rfl | rfl <;> rfl) (fun x y => (x.1.val : Int) - y.1.val) swo_lo 51 #[] g off cap l.toArray W eg (cmp_lays g off _ W) hH hg (by simp; omega)
  refine hcon.mono ?_
  rintro e w' ⟨rfl, d, m, os, hp, hs, rfl⟩
  have hK := holdsK_sortWorldK_c (enc := encB) (k := 2) (w := W) (blk := g) (off := off) l.toArray d m os hH hg hp.1
  have hpw := putRow_below id W m g off base (flatK encB 2 d) hbg
  have hsz : d.size = l.length := by rw [hp.1]; simp
  refine ⟨rfl, hpw.trans (grow_below _ _ (by have := hpw.size; omega)), d.toList, ?_, ?_, fun j x hx => ?_⟩
  · have h3 := hp.2.2
    rw [List.size_toArray] at h3
    have e1 : (d.extract 0 l.length).toList = d.toList := by rw [← hsz]; simp
    have e2 : (l.toArray.extract 0 l.length).toList = l := by simp
    rw [e1, e2] at h3
    exact h3
  · unfold sortedR
    rw [List.pairwise_map, List.pairwise_iff_getElem]
    intro i j hi hj hij
    have := hs i j (Nat.zero_le _) hij (by rw [← hp.1]; simpa using hj)
    rw [ltOf_lo] at this
    have h2 := of_decide_eq_false this
    have hi' : i < d.size := by simpa using hi
    have hj' : j < d.size := by simpa using hj
    rw [getElem!_pos d i hi', getElem!_pos d j hj'] at h2
    simp only [RB.rng, Array.getElem_toList]
    omega
  · obtain ⟨hj, e⟩ := List.getElem?_eq_some_iff.1 hx
    have hj' : j < d.size := by simpa using hj
    have ed : d[j]! = x := by rw [getElem!_pos d j hj', ← e]; simp
    have c0 := (HoldsK.cell hK (i := j) (c := 0) hj' (by omega))
    have c1 := (HoldsK.cell hK (i := j) (c := 1) hj' (by omega))
    rw [ed] at c0 c1
    exact ⟨c0.1, c1.1⟩
end Go.Proofs.YtpcffnhbodjpbaaGreatDoor
