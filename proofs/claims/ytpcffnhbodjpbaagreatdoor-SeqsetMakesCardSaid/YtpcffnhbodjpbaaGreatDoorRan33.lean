/- index.New: the sorted row of a list, each number once. -/
import Derived.Test.YtpcffnhbodjpbaaGreatDoorSrt13
import Derived.Test.YtpcffnhbodjpbaaGreatDoorRan32
import Derived.Test.YtpcffnhbodjpbaaGreatDoorUniq
set_option linter.unusedVariables false
set_option linter.unusedSimpArgs false
namespace Go.Proofs.YtpcffnhbodjpbaaGreatDoor
open Go Go.RowKit Go.Sort Go.Lib

/-- The call's own slice v holds the list l. -/
def B32 (w : World) (base : Nat) (v : Value) (l : List Int) : Prop := Buf w base 1 v l.length (l.map (Value.int .u32))
theorem B32.shape {w : World} {base : Nat} {v : Value} {l : List Int} (h : B32 w base v l) : (v = .slice none 0 0 ∧ l = []) ∨ ∃ g off cap, v = .slice (some ⟨g, off, none⟩) l.length cap ∧ base ≤ g ∧ g < w.heap.size ∧ l.length ≤ cap ∧ Holds (Value.int .u32) w g off l.toArray ∧
    ∀ j, j < cap → (w.cell? ⟨g, off + j, none⟩).isSome = true ∧ w.frozen? ⟨g, off + j, none⟩ = false := by
  rcases h.2 with ⟨rfl, h0⟩ | ⟨g, off, cap, rfl, h1, h2, h3, h4, h5⟩
  · exact .inl ⟨rfl, List.eq_nil_of_length_eq_zero h0⟩
  · refine .inr ⟨g, off, cap, rfl, h1, h2, h3, fun j hj => ?_, fun j hj => h5 j (by omega)⟩
    have hj' : j < l.length := by simpa using hj
    refine ⟨h4 j _ ?_, (h5 j (by omega)).2⟩
    rw [List.getElem?_map, List.getElem?_eq_getElem hj']
    simp [getElem!_pos, hj']
theorem B32.of {w : World} {base g off cap : Nat} {l : List Int} (h1 : base ≤ g) (h2 : g < w.heap.size) (h3 : l.length ≤ cap) (h4 : ∀ j x, l[j]? = some x → w.cell? ⟨g, off + j, none⟩ = some (.int .u32 x))
    (h5 : ∀ j, j < cap → (w.cell? ⟨g, off + j, none⟩).isSome = true ∧ w.frozen? ⟨g, off + j, none⟩ = false) : B32 w base (.slice (some ⟨g, off, none⟩) l.length cap) l :=
  ⟨by simp, .inr ⟨g, off, cap, rfl, h1, h2, h3, fun j u hj => by
    rw [List.getElem?_map] at hj
    cases hx : l[j]? with
    | none => rw [hx] at hj; cases hj
    | some x => rw [hx] at hj; injection hj with hj; subst hj; exact h4 j x hx, fun j hj => h5 j (by omega)⟩⟩
theorem holds_cell {w : World} {g off : Nat} {l : List Int} (h : Holds (Value.int .u32) w g off l.toArray) (j : Nat) (x : Int) (hx : l[j]? = some x) : w.cell? ⟨g, off + j, none⟩ = some (.int .u32 x) := by
  obtain ⟨hj, e⟩ := List.getElem?_eq_some_iff.1 hx
  have := (h j (by simpa using hj)).1
  rw [this]
  simp [getElem!_pos, hj, e]

set_option maxHeartbeats 1000000 in
theorem collect_vals (zs : List Int) (A : Option Addr) (cap Bx : Nat) (w : World) (hc : w.cell? ⟨Bx, 0, none⟩ = some (.slice A zs.length cap)) (hBx : Bx < w.heap.size) (hU : U32 w w.heap.size (.slice A zs.length cap) zs) (hz : zs.length ≤ 1048576) :
    Calls Tryz.prog 52 #[.func (.func 54) #[] #[.pointer (some ⟨Bx, 0, none⟩)]] w fun e w' =>
      ∃ v, e = .returned v ∧ w'.ownsRow w.heap.size 30 1 v zs.length (zs.map (Value.int .u32)) ∧ (v = .slice none 0 0 ↔ zs.length = 0) ∧ Below w.heap.size w w' := by
  have HC := Lib.hid (appseq_vals zs A cap Bx w hc hBx hU hz)
  clear hc hU hz hBx
  go_enter Tryz.func52, Tryz.ntmps52
  go_wp2_with (go_at_call 65; refine HC.out.mono ?_; rintro e w' ⟨v, rfl, h1, h2, h3⟩)
  go_ret
  exact ⟨v, rfl, h1, h2, h3⟩

set_option maxHeartbeats 1000000 in
theorem sorted_vals (zs : List Int) (A : Option Addr) (cap Bx : Nat) (w : World) (hc : w.cell? ⟨Bx, 0, none⟩ = some (.slice A zs.length cap)) (hBx : Bx < w.heap.size) (hU : U32 w w.heap.size (.slice A zs.length cap) zs) (hz : zs.length ≤ 1048576) :
    Calls Tryz.prog 35 #[.func (.func 54) #[] #[.pointer (some ⟨Bx, 0, none⟩)]] w fun e w' =>
      ∃ v, e = .returned v ∧ B32 w' w.heap.size v (zs.mergeSort fun x y => decide (x ≤ y)) ∧ Below w.heap.size w w' := by
  have HC := Lib.hid (collect_vals zs A cap Bx w hc hBx hU hz)
  have hlen : (zs.mergeSort fun x y => decide (x ≤ y)).length = zs.length := List.length_mergeSort _
  clear hc hU hBx
  go_enter Tryz.func35, Tryz.ntmps35
  go_wp2_with fail
  refine HC.out.mono ?_
  rintro e w1 ⟨v, rfl, h1, h2, h3⟩
  rcases h1.2 with ⟨rfl, h0⟩ | ⟨g, cp, cur, rfl, hg, hh, h4, h5, h6, h7⟩
  · have hzn : zs = [] := List.eq_nil_of_length_eq_zero h0
    subst hzn
    have HB := Lib.hid h3
    clear h1 h2 h3 HC
    go_wp2_with (go_at_call 53; refine (sort_none none 0 w1).mono ?_; rintro e w' ⟨rfl, rfl⟩)
    go_ret
    exact ⟨_, rfl, ⟨by simp, .inl ⟨rfl, by simp⟩⟩, HB.out⟩
  · have hb : B32 w1 w.heap.size (.slice (some ⟨g, 0, none⟩) zs.length cp) zs := Buf.of_own h1
    rcases hb.shape with ⟨e, _⟩ | ⟨g', off', cp', e, k1, k2, k3, k4, k5⟩
    · cases e
    · injection e with e1 _ e3
      injection e1 with e1
      injection e1 with e4 e5 _
      subst e4 e5 e3
      have HS := Lib.hid (sort_u32 g 0 cp zs w1 k4 k2 hz k3)
      have HB := Lib.hid (And.intro h3 (And.intro k1 (And.intro k2 (And.intro k3 k5))))
      obtain ⟨n, hn⟩ : ∃ n, zs.length = n := ⟨_, rfl⟩
      rw [hn] at HS
      have HN := Lib.hid hn
      rw [hn]
      clear h1 h2 h3 hh h4 h5 h6 h7 hb k1 k2 k3 k4 k5 HC hn hz
      go_wp2_with fail
      refine HS.out.mono ?_
      rintro e w2 ⟨rfl, hsp⟩
      have HP := Lib.hid hsp
      clear hsp
      go_wp2_with fail
      go_ret
      obtain ⟨h3, k1, k2, k3, k5⟩ := HB.out
      refine ⟨_, rfl, ?_, h3.grown HP.out.2 h3.size (fun k e => by injection e with e; omega)⟩
      rw [← HN.out, ← hlen]
      exact B32.of k1 (Nat.lt_of_lt_of_le k2 HP.out.2.size) (by rw [hlen]; exact k3) (holds_cell HP.out.1) (fun j hj => by
        obtain ⟨q1, q2⟩ := HP.out.3 _ (k5 j hj).1
        exact ⟨q1, q2.trans (k5 j hj).2⟩)

theorem compact_len (l : List Int) : (compact l).length ≤ l.length := by
  unfold compact compactUpTo
  rw [List.length_map]
  exact Nat.le_trans (List.length_filter_le _ _) (by simp)
theorem putRow_grown (enc : Int → Value) (w : World) (q blk off : Nat) (d : Array Int) : w.grownBy (putRow enc (Sort.ahead w q) blk off d) (some blk) :=
  ⟨rfl, rfl, rfl, by simp [putRow, mapBlock, Sort.ahead], fun k hk hne => by
    have : blk ≠ k := fun e => hne (by rw [e])
    simp [putRow, mapBlock, Sort.ahead, Array.getElem?_modify, this]⟩
set_option maxHeartbeats 1000000 in
theorem compact_none (w : World) : Calls Tryz.prog 34 #[.slice none 0 0] w fun e w' => e = .returned (.slice none 0 0) ∧ w' = w := by
  go_enter Tryz.func34, Tryz.ntmps34
  go_wp2
  go_ret
  exact ⟨rfl, rfl⟩
theorem compact_any {base : Nat} {v : Value} {l : List Int} {w : World} (h : B32 w base v l) (hl : l.length ≤ 1048576) :
    Calls Tryz.prog 34 #[v] w fun e w' => ∃ v', e = .returned v' ∧ B32 w' base v' (compact l) ∧ w.grownBy w' v.ownBlock := by
  rcases h.shape with ⟨rfl, rfl⟩ | ⟨g, off, cap, rfl, h1, h2, h3, h4, h5⟩
  · refine (compact_none w).mono ?_
    rintro e w' ⟨rfl, rfl⟩
    exact ⟨_, rfl, ⟨rfl, .inl ⟨rfl, rfl⟩⟩, World.grownBy.refl _ _⟩
  · have hc := Tryz.slices_Compact (Value.int .u32) (fun _ => rfl) (.intD _ _ _) (.intD _ _ _) 0 Tryz.zeroValue30 g off cap l.toArray w h4 (by simp; omega) (by simpa using h3)
    refine hc.mono ?_
    rintro e w' ⟨rfl, q, rfl⟩
    have hcl := compact_len l
    have hsz : (compact l ++ List.replicate (l.length - (compact l).length) (0 : Int)).toArray.size = l.toArray.size := by
      simp
      omega
    have hH := holds_putRow (Value.int .u32) (Sort.ahead w q) g off l.toArray _ h4 hsz
    refine ⟨_, rfl, B32.of (l := compact l) h1 ?_ (Nat.le_trans hcl h3) (fun j x hx => ?_) (fun j hj => ?_), putRow_grown _ _ _ _ _ _⟩
    · exact Nat.lt_of_lt_of_le h2 (putRow_grown _ _ _ _ _ _).size
    · have hj : j < (compact l).length := (List.getElem?_eq_some_iff.1 hx).1
      refine (hH j (by rw [hsz]; simp; omega)).1.trans ?_
      congr 2
      rw [getElem!_pos _ _ (by rw [hsz]; simp; omega)]
      have e : (compact l ++ List.replicate (l.length - (compact l).length) (0 : Int))[j]? = some x := by
        rw [List.getElem?_append_left hj]
        exact hx
      simpa using (List.getElem?_eq_some_iff.1 e).2
    · by_cases hjl : j < l.length
      · obtain ⟨q1, q2⟩ := hH j (by rw [hsz]; simpa using hjl)
        exact ⟨(congrArg Option.isSome q1).trans rfl, q2⟩
      · have q1 := cell?_putRow_other (Value.int .u32) (Sort.ahead w q) g off (compact l ++ List.replicate (l.length - (compact l).length) (0 : Int)).toArray ⟨g, off + j, none⟩ (.inr (.inr (by rw [hsz]; simp; omega)))
        have q2 : (putRow (Value.int .u32) (Sort.ahead w q) g off (compact l ++ List.replicate (l.length - (compact l).length) (0 : Int)).toArray).frozen? ⟨g, off + j, none⟩ = w.frozen? ⟨g, off + j, none⟩ := by
          unfold putRow
          rw [frozen?_mapBlock]
          rfl
        exact ⟨(congrArg Option.isSome q1).trans (h5 j hj).1, q2.trans (h5 j hj).2⟩

theorem B32.tail {w : World} {base g off cap : Nat} {x : Int} {l : List Int} (h : B32 w base (.slice (some ⟨g, off, none⟩) (l.length + 1) cap) (x :: l)) : B32 w base (.slice (some ⟨g, off + 1, none⟩) l.length (cap - 1)) l := by
  rcases h.shape with ⟨e, _⟩ | ⟨g', off', cap', e, h1, h2, h3, h4, h5⟩
  · cases e
  · injection e with e1 _ e3
    injection e1 with e1
    injection e1 with e4 e5 _
    subst e4 e5 e3
    simp only [List.length_cons] at h3
    refine B32.of h1 h2 (by omega) (fun j y hj => ?_) (fun j hj => ?_)
    · rw [show off + 1 + j = off + (j + 1) by omega]
      exact holds_cell h4 (j + 1) y (by simpa using hj)
    · rw [show off + 1 + j = off + (j + 1) by omega]
      exact h5 (j + 1) (by omega)
theorem B32.tail1 {w : World} {base g off cap : Nat} {x : Int} {l : List Int} (h : B32 w base (.slice (some ⟨g, off, none⟩) (l.length + 1) cap) (x :: l)) (hc : cap = 1) : B32 w base (.slice (some ⟨g, off, none⟩) l.length 0) l := by
  rcases h.shape with ⟨e, _⟩ | ⟨g', off', cap', e, h1, h2, h3, h4, h5⟩
  · cases e
  · injection e with e1 _ e3
    injection e1 with e1
    injection e1 with e4 e5 _
    subst e4 e5 e3
    simp only [List.length_cons] at h3
    have hl : l = [] := List.eq_nil_of_length_eq_zero (by omega)
    subst hl
    exact B32.of h1 h2 (by simp) (fun j y hj => by simp at hj) (fun j hj => by omega)
theorem B32.grown {w w' : World} {base : Nat} {v : Value} {l : List Int} {row : Option Nat} (h : B32 w base v l) (hg : w.grownBy w' row) (hr : ∀ k, v.ownBlock = some k → some k ≠ row) : B32 w' base v l := Buf.grown h hg hr
end Go.Proofs.YtpcffnhbodjpbaaGreatDoor
