/- bytes.Index at a line end, by the plain law. · The walk of slices.Clone over bytes. · Plain lemmas: only one block of the old memory turns. · The splitter in memory; the walks of New, Left and Feed. · The walks of literal and line. · The walk of line. · The walk of finish. · The walk of Next: what it hands back. -/
import Derived.Test.YtllboenffepcgaaDoorJ1
import Derived.Test.YtllboenffepcgaaDoorShelf
import Derived.Test.YtllboenffepcgaaDoorJ3
import Derived.Lib.Index
import Derived.Test.YtllboenffepcgaaDoorLawForms
import Derived.Lib.SliceRun
import Derived.Test.YtllboenffepcgaaDoorJ0
import Derived.BigRegion
import Derived.Deep.RegionHeld3
import Derived.Lib.SlBytesConst
set_option linter.unusedVariables false
set_option linter.unusedSimpArgs false
namespace Go.Proofs.YtllboenffepcgaaDoor
open Go.RowKit

/-- The variable that bytes.Index reads. -/
structure StdM (w : World) : Prop where
  mx : ∃ m, w.cell? ⟨0, 0, none⟩ = some (.int .i64 m)
theorem StdM.below {w w' : World} (h : StdM w) (hb : Below w.heap.size w w') : StdM w' := by
  obtain ⟨m, h⟩ := h.mx
  exact ⟨m, cell_stays h hb⟩
theorem index_find : ∀ l : List UInt8, Lib.index l [13, 10] = ixV (findE l)
  | [] => rfl
  | [a] => by
    unfold Lib.index
    have h1 : List.isPrefixOf [13, 10] [a] = false := by simp [List.isPrefixOf]
    rw [h1]
    rfl
  | a :: b :: r => by
    unfold Lib.index findE
    by_cases h : a = 13 ∧ b = 10
    · rw [if_pos (by rw [h.1, h.2]; simp [List.isPrefixOf]), if_pos h]; rfl
    · rw [if_neg (by simp only [List.isPrefixOf, Bool.and_eq_true, beq_iff_eq]; rintro ⟨h1, h2, _⟩; exact h ⟨h1.symm, h2.symm⟩), if_neg h, index_find (b :: r)]
      cases h2 : findE (b :: r) with
      | none => rfl
      | some e =>
        show (if ((e : Int) == -1) = true then (-1 : Int) else (e : Int) + 1) = ((e + 1 : Nat) : Int)
        rw [if_neg (by simp only [beq_iff_eq]; omega)]
        omega
theorem ends_any (p : Option Addr) (c g : Nat) (l : List UInt8) (w : World) (h : Bys w w.heap.size p l) (hl : l.length ≤ 1048576) (hc : l.length ≤ c) (hp : p = none → c = 0) (h13 : w.cell? ⟨g, 0, none⟩ = some (.int .u8 13)) (h10 : w.cell? ⟨g, 1, none⟩ = some (.int .u8 10)) (hM : StdM w) :
    Calls Tryd.prog 37 #[.slice p l.length c, .slice (some ⟨g, 0, none⟩) 2 2] w fun e w' => e = .returned (.int .i64 (ixV (findE l))) ∧ ∃ q, w' = w.drewN q := by
  obtain ⟨m, hm⟩ := hM.mx
  cases p with
  | none =>
    obtain rfl := hp rfl
    have hl0 : l = [] := List.eq_nil_of_length_eq_zero (by omega)
    subst hl0
    refine (Tryd.bytes_Index_nil (some ⟨g, 0, none⟩) 2 2 w (by decide) (fun h => by omega)).mono ?_
    rintro e w' ⟨rfl, rfl⟩
    exact ⟨rfl, 0, rfl⟩
  | some a =>
    refine (Tryd.bytes_Index_at a ⟨g, 0, none⟩ l.length c 2 2 (ints l) [13, 10] m w (ints_length l) rfl ?_ ?_ (fun i hi => ?_) (fun i hi => ?_) hc (by omega) (by decide) hm).mono ?_
    · intro x hx
      simp only [ints, List.mem_map] at hx
      obtain ⟨b, _, rfl⟩ := hx
      have := b.toNat_lt
      omega
    · intro y hy
      simp at hy
      omega
    · obtain ⟨b, o, e, _, hcl⟩ := h.at (by omega)
      injection e with e
      subst e
      rw [Go.WideShapes.add_plain, hcl i hi]
      simp [ints, hi]
    · match i, hi with
      | 0, _ => rw [Go.WideShapes.add_plain]; exact h13
      | 1, _ => rw [Go.WideShapes.add_plain]; exact h10
    · rintro e w' ⟨rfl, q, rfl⟩
      refine ⟨?_, q, rfl⟩
      rw [bytesOf_ints, ← index_find]
      rfl
end Go.Proofs.YtllboenffepcgaaDoor
namespace Go.Proofs.YtllboenffepcgaaDoor
open Go.RowKit

set_option maxRecDepth 100000 in
theorem clone_some (q : Addr) (cap n : Nat) (l : List UInt8) (hn : l.length = n) (w : World) (h : Bys w w.heap.size (some q) l) (hl : l.length ≤ 1048576) :
    Calls Tryd.prog 41 #[.slice (some q) n cap] w (RetB w l) := by
  subst hn
  obtain ⟨p2, c2, w1, hrun, hc2, hbuf, hb1⟩ := own_copy w (some q) cap l h hl
  have HR := Lib.hid hrun
  have HB := Lib.hid (And.intro hbuf hb1)
  have en := Lib.run_eql_slice_nil (P := Tryd.prog)
  clear h hl hrun hbuf hb1 hc2
  generalize hn : l.length = n at *
  have HN := Lib.hid hn
  clear hn
  go_enter Tryd.func41, Tryd.ntmps41
  go_wp2_with (at_builtin; refine wpList_append_run _ rfl (.tmp 5) (.tmp 6) _ _ rfl _ _ rfl rfl _ _ HR.out ?_)
  go_ret
  exact ⟨_, rfl, by rw [HN.out]; exact HB.out.1, HB.out.2⟩
set_option maxRecDepth 100000 in
theorem clone_nil (w : World) : Calls Tryd.prog 41 #[.slice none 0 0] w fun e w' => e = .returned (.slice none 0 0) ∧ w = w' := by
  have en := Lib.run_eql_slice_nil (P := Tryd.prog)
  go_enter Tryd.func41, Tryd.ntmps41
  go_wp2_with fail
  go_ret
  exact ⟨rfl, rfl⟩
end Go.Proofs.YtllboenffepcgaaDoor
namespace Go.Proofs.YtllboenffepcgaaDoor
open Go.RowKit

theorem grown_of_below {w w' : World} (h : Below w.heap.size w w') (row : Option Nat) : w.grownBy w' row := ⟨h.os, h.tape, h.output, h.size, fun k hk _ => h.block k hk⟩
theorem grown_trans {a b c : World} {row : Option Nat} (h : a.grownBy b row) (k : b.grownBy c row) : a.grownBy c row :=
  ⟨k.os.trans h.os, k.tape.trans h.tape, k.output.trans h.output, Nat.le_trans h.size k.size, fun i hi hn => (k.block i (Nat.lt_of_lt_of_le hi h.size) hn).trans (h.block i hi hn)⟩
theorem grown_new {w w1 : World} {row : Option Nat} (h : w.grownBy w1 row) {b : Nat} (hb : w.heap.size ≤ b) (o : Nat) (v : Value) : w.grownBy (w1.setCell ⟨b, o, none⟩ v) row :=
  ⟨h.os, h.tape, h.output, by simpa [World.setCell] using h.size, fun i hi hn => (Below.heap_setCell w1 ⟨b, o, none⟩ v i (by show i ≠ b; omega)).trans (h.block i hi hn)⟩
theorem grown_put {w w1 : World} {g : Nat} (h : w.grownBy w1 (some g)) (o : Nat) (v : Value) : w.grownBy (w1.setCell ⟨g, o, none⟩ v) (some g) :=
  ⟨h.os, h.tape, h.output, by simpa [World.setCell] using h.size, fun i hi hn => (Below.heap_setCell w1 ⟨g, o, none⟩ v i (by show i ≠ g; rintro rfl; exact hn rfl)).trans (h.block i hi hn)⟩
theorem grown_alloc {w w1 : World} {row : Option Nat} (h : w.grownBy w1 row) (o : Obj) : w.grownBy (w1.alloc o) row :=
  ⟨h.os, h.tape, h.output, Nat.le_trans h.size (by rw [World.size_alloc]; omega), fun i hi hn => (Below.heap_alloc w1 o i (Nat.lt_of_lt_of_le hi h.size)).trans (h.block i hi hn)⟩
theorem grown_drewN {w w1 : World} {row : Option Nat} (h : w.grownBy w1 row) (n : Nat) : w.grownBy (w1.drewN n) row := ⟨h.os, h.tape, h.output, h.size, h.block⟩
theorem grown_drew {w w1 : World} {row : Option Nat} (h : w.grownBy w1 row) : w.grownBy w1.drew row := ⟨h.os, h.tape, h.output, h.size, h.block⟩
theorem Blk.grown {w w' : World} {g : Nat} {t : TypeId} {cs : Array Value} {row : Option Nat} (h : Blk w g t cs) (hg : w.grownBy w' row) (hne : some g ≠ row) : Blk w' g t cs := (hg.block g h.lt hne).trans h
/-- What is below an old mark stays where only a newer block turns. -/
theorem below_grow {B : Nat} {a w w' : World} {g : Nat} (h : Below B a w) (hg : w.grownBy w' (some g)) (hB : B ≤ w.heap.size) (hb : B ≤ g) : Below B a w' :=
  h.grown hg hB (fun k hk => by injection hk with hk; omega)
end Go.Proofs.YtllboenffepcgaaDoor
namespace Go.Proofs.YtllboenffepcgaaDoor
open Go.RowKit

/-- The splitter at s, whose row is the block r, has the bytes b and stands at the place p. -/
def Spl (W : World) (s : Nat) (r : Option Nat) (b : List UInt8) (p : Nat) : Prop :=
  ∃ (v : Value) (a k e : Nat), Blk W s 49 #[v, .int .i64 a, .int .i64 k, .int .i64 e] ∧ Buf W 0 1 v b.length (Lib.byteCells b) ∧ v.ownBlock = r ∧ a + k = p ∧ a ≤ b.length ∧ e ≤ b.length ∧ k ≤ 65536 ∧ r ≠ some s
theorem Spl.below {W W' : World} {s : Nat} {r : Option Nat} {b : List UInt8} {p : Nat} (h : Spl W s r b p) (hb : Below W.heap.size W W') : Spl W' s r b p := by
  obtain ⟨v, a, k, e, h1, h2, h3⟩ := h
  exact ⟨v, a, k, e, Blk.below h1 hb h1.lt, h2.below hb (Nat.le_refl _), h3⟩
theorem Spl.lt {W : World} {s : Nat} {r : Option Nat} {b : List UInt8} {p : Nat} (h : Spl W s r b p) : s < W.heap.size := by
  obtain ⟨v, a, k, e, h1, _⟩ := h
  exact h1.lt
theorem Spl.row {W : World} {s g : Nat} {r : Option Nat} {b : List UInt8} {p : Nat} (h : Spl W s r b p) (e : r = some g) : g < W.heap.size ∧ g ≠ s := by
  obtain ⟨v, a, k, e2, h1, h2, h3, _, _, _, _, h4⟩ := h
  refine ⟨?_, fun e3 => h4 (by rw [e, e3])⟩
  rw [e] at h3
  rcases h2.2 with ⟨e2, _⟩ | ⟨g', off, cap, e2, _, hg, _⟩
  · rw [e2] at h3; cases h3
  · rw [e2] at h3; simp only [Value.ownBlock, Option.some.injEq] at h3; omega
theorem setCell_size' (w : World) (p : Addr) (u : Value) : (w.setCell p u).heap.size = w.heap.size := by simp [World.setCell]
theorem blk4 {W : World} {s : Nat} {t : TypeId} {v0 v1 v2 v3 : Value} (h : Blk W s t #[v0, v1, v2, v3]) :
    (W.cell? ⟨s, 0, none⟩ = some v0 ∧ W.cell? ⟨s, 1, none⟩ = some v1 ∧ W.cell? ⟨s, 2, none⟩ = some v2 ∧ W.cell? ⟨s, 3, none⟩ = some v3) ∧ (W.frozen? ⟨s, 0, none⟩ = false ∧ W.frozen? ⟨s, 1, none⟩ = false ∧ W.frozen? ⟨s, 2, none⟩ = false ∧ W.frozen? ⟨s, 3, none⟩ = false) := by
  refine ⟨⟨?_, ?_, ?_, ?_⟩, ⟨h.frz 0, h.frz 1, h.frz 2, h.frz 3⟩⟩
  all_goals (rw [h.cell]; rfl)

set_option maxRecDepth 100000 in
set_option maxHeartbeats 400000 in
theorem new_any (w : World) :
    Calls Tryd.prog 9 #[] w fun e w' => e = .returned (.pointer (some ⟨w.heap.size, 0, none⟩)) ∧ Spl w' w.heap.size none [] 0 ∧ Below w.heap.size w w' := by
  go_enter Tryd.func9, Tryd.ntmps9
  go_wp2_with fail
  go_ret
  exact ⟨rfl, ⟨_, 0, 0, 0, Blk.made _ _ _, Buf.nil _ _ _, rfl, rfl, Nat.le_refl _, Nat.le_refl _, by omega, by simp⟩, (Below.refl _ _).alloc (Nat.le_refl _) _⟩

set_option maxRecDepth 100000 in
set_option maxHeartbeats 400000 in
theorem left_any (s : Nat) (r : Option Nat) (b : List UInt8) (p : Nat) (w : World) (h : Spl w s r b p) :
    Calls Tryd.prog 14 #[.pointer (some ⟨s, 0, none⟩)] w fun e w' => e = .returned (.int .i64 (b.length : Nat)) ∧ w = w' := by
  obtain ⟨v, a, k, e, h1, h2, -⟩ := h
  obtain ⟨pv, cv, rfl, -, -⟩ := h2.bys
  obtain ⟨⟨c0, c1, c2, c3⟩, -⟩ := blk4 h1
  clear h1 h2
  generalize b.length = n at *
  go_enter Tryd.func14, Tryd.ntmps14
  go_wp2_with fail
  go_ret
  exact ⟨rfl, rfl⟩
set_option maxRecDepth 100000 in
set_option maxHeartbeats 400000 in
theorem left_none (w : World) :
    Calls Tryd.prog 14 #[.pointer none] w fun e w' => e = .returned (.int .i64 0) ∧ w = w' := by
  go_enter Tryd.func14, Tryd.ntmps14
  go_wp2_with fail
  go_ret
  exact ⟨rfl, rfl⟩
set_option maxRecDepth 100000 in
set_option maxHeartbeats 400000 in
theorem feed_none (p : Option Addr) (n c : Nat) (w : World) :
    Calls Tryd.prog 10 #[.pointer none, .slice p n c] w fun e w' => (∃ v, e = .returned v) ∧ w = w' := by
  go_enter Tryd.func10, Tryd.ntmps10
  go_wp2_with fail
  go_end0
  exact ⟨⟨_, rfl⟩, rfl⟩

set_option maxRecDepth 100000 in
set_option maxHeartbeats 800000 in
theorem feed_any (s : Nat) (r : Option Nat) (b : List UInt8) (p : Nat) (q : Option Addr) (l : List UInt8) (c : Nat) (w : World) (h : Spl w s r b p) (hq : Bys w w.heap.size q l) (hl : b.length + l.length ≤ 1048576) :
    Calls Tryd.prog 10 #[.pointer (some ⟨s, 0, none⟩), .slice q l.length c] w fun e w' => (∃ v, e = .returned v) ∧ ∃ r', Spl w' s r' (b ++ l) p ∧ (r' = r ∨ ∃ g, r' = some g ∧ w.heap.size ≤ g) ∧ KeptOn (fun k => k ≠ s ∧ r ≠ some k) w w' ∧ w'.os = w.os ∧ w'.tape = w.tape ∧ w'.output = w.output := by
  have hrow := fun g (e : r = some g) => h.row e
  obtain ⟨v, a, k, e, h1, h2, h3, h4, h5, h6, h7, h8⟩ := h
  obtain ⟨pv, cv, rfl, -, -⟩ := h2.bys
  obtain ⟨⟨c0, c1, c2, c3⟩, ⟨z0, z1, z2, z3⟩⟩ := blk4 h1
  obtain ⟨i0, hi, hz0, hz1, hz2⟩ := info_parts infoU8
  obtain ⟨v', w', hrun, hbuf, hgr, hrw⟩ := run_append_buf (P := Tryd.prog) w 26 26 5 i0 (.int .u8 0) 1 1 Tryd.underlying26 hi hz0 hz1 hz2 rfl (by decide) 0 _ _ _ h2 q l.length c _ (src_bys hq) (by unfold maxLen; omega) (by omega) (by omega)
  have HRUN := Lib.hid hrun
  have hb1 : Blk w' s 49 #[.slice pv b.length cv, .int .i64 a, .int .i64 k, .int .i64 e] := Blk.grown h1 hgr (by rw [h3]; exact fun e => h8 e.symm)
  have hbuf' : Buf w' 0 1 v' (b ++ l).length (Lib.byteCells (b ++ l)) := by rw [List.length_append, Lib.byteCells_append]; exact hbuf
  obtain ⟨pv', cv', rfl, -, -⟩ := hbuf'.bys
  obtain ⟨⟨d0, d1, d2, d3⟩, ⟨y0, y1, y2, y3⟩⟩ := blk4 hb1
  have HB := Lib.hid (And.intro hb1 hbuf')
  have HG := Lib.hid (And.intro hgr hrw)
  have HH := Lib.hid (And.intro h3 (And.intro h4 (And.intro h5 (And.intro h6 (And.intro h7 (And.intro h8 (And.intro hrow h1.lt)))))))
  clear h1 h2 h3 h4 h5 h6 h7 h8 hrow hrun hbuf hbuf' hb1 hgr hrw hi hz0 hz1 hz2 hq
  go_enter Tryd.func10, Tryd.ntmps10
  go_wp2_with (at_builtin; refine wpList_append_run _ rfl (.tmp 10) (.tmp 11) _ _ rfl _ _ rfl rfl _ _ HRUN.out ?_)
  go_end0
  obtain ⟨hb1, hbuf⟩ := HB.out
  obtain ⟨hgr, hrw⟩ := HG.out
  obtain ⟨h3, h4, h5, h6, h7, h8, hrow, hlt⟩ := HH.out
  have hne : (Value.slice pv' (b.length + l.length) cv').ownBlock ≠ some s := by
    rcases hrw with e | ⟨g, e, hg⟩
    · rw [List.length_append] at e; rw [e, h3]; exact h8
    · rw [List.length_append] at e; rw [e]; intro e2; injection e2 with e2; omega
  rw [List.length_append] at hbuf hrw
  have hp := hb1.put 0 (.slice pv' (b.length + l.length) cv')
  simp only [List.setIfInBounds_toArray, List.set_cons_zero] at hp
  refine ⟨⟨_, rfl⟩, _, ⟨.slice pv' (b.length + l.length) cv', a, k, e, hp, ?_, rfl, h4, by rw [List.length_append]; omega, by rw [List.length_append]; omega, h7, hne⟩, ?_, ⟨?_, ?_⟩, hgr.os, hgr.tape, hgr.output⟩
  · rw [List.length_append]
    exact hbuf.far (p := ⟨s, 0, none⟩) hne _
  · rcases hrw with e | e
    · exact .inl (by rw [e]; exact h3)
    · exact .inr e
  · rw [setCell_size']; exact hgr.size
  · intro k hk ⟨hk1, hk2⟩
    rw [Below.heap_setCell _ _ _ _ hk1]
    exact hgr.block k hk (by rw [h3]; exact fun e => hk2 e.symm)
end Go.Proofs.YtllboenffepcgaaDoor
namespace Go.Proofs.YtllboenffepcgaaDoor
open Go.RowKit

set_option maxRecDepth 100000 in
set_option maxHeartbeats 1600000 in
theorem literal_no (s : Nat) (pv : Option Addr) (n cv a k e : Nat) (w : World) (h : Blk w s 49 #[.slice pv n cv, .int .i64 a, .int .i64 k, .int .i64 e]) (hn : n ≤ 1048576) (ha : a ≤ n) (hk : k ≤ 65536) (hd : n < a + k) :
    Calls Tryd.prog 23 #[.pointer (some ⟨s, 0, none⟩)] w fun x w' => x = .returned (.bool false) ∧ ∃ j, w' = w.drewN j := by
  obtain ⟨⟨c0, c1, c2, c3⟩, ⟨z0, z1, z2, z3⟩⟩ := blk4 h
  have hn1 : (n : Int) ≤ 1048576 := by omega
  have ha1 : (a : Int) ≤ n := by omega
  have hk1 : (k : Int) ≤ 65536 := by omega
  have hd1 : (n : Int) - a < k := by omega
  go_enter Tryd.func23, Tryd.ntmps23
  go_wp2_with fail
  go_quiet (fail)
  go_wp2_with fail
  go_ret
  exact ⟨rfl, ⟨_, rfl⟩⟩
set_option maxRecDepth 100000 in
set_option maxHeartbeats 1600000 in
theorem literal_yes (s : Nat) (pv : Option Addr) (n cv a k e : Nat) (w : World) (h : Blk w s 49 #[.slice pv n cv, .int .i64 a, .int .i64 k, .int .i64 e]) (hn : n ≤ 1048576) (ha : a ≤ n) (hk : k ≤ 65536) (hd : a + k ≤ n) :
    Calls Tryd.prog 23 #[.pointer (some ⟨s, 0, none⟩)] w fun x w' => x = .returned (.bool true) ∧ Blk w' s 49 #[.slice pv n cv, .int .i64 ((a : Int) + k), .int .i64 0, .int .i64 ((a : Int) + k)] ∧ w.grownBy w' (some s) := by
  have H := Lib.hid h
  obtain ⟨⟨c0, c1, c2, c3⟩, ⟨z0, z1, z2, z3⟩⟩ := blk4 h
  have hn1 : (n : Int) ≤ 1048576 := by omega
  have ha1 : (a : Int) ≤ n := by omega
  have hk1 : (k : Int) ≤ 65536 := by omega
  have hd1 : ¬ ((n : Int) - a < k) := by omega
  clear h
  go_enter Tryd.func23, Tryd.ntmps23
  go_wp2_with fail
  go_quiet (fail)
  go_wp2_with fail
  go_region
  all_goals
    go_wp2_with fail
    go_ret
    refine ⟨rfl, ?_, grown_put (grown_put (grown_put (grown_drewN (World.grownBy.refl w _) _) _ _) _ _) _ _⟩
    have hp := (((show Blk (w.drewN (nq + 1)) s 49 _ from H.out).put 1 (.int .i64 ((a : Int) + k))).put 2 (.int .i64 0)).put 3 (.int .i64 ((a : Int) + k))
    simp only [List.setIfInBounds_toArray, List.set_cons_zero, List.set_cons_succ] at hp
    exact hp

end Go.Proofs.YtllboenffepcgaaDoor
namespace Go.Proofs.YtllboenffepcgaaDoor
open Go.RowKit

theorem conv_ends (w : World) : (convert 26 26 (.slice (some ⟨w.heap.size, 0, none⟩) 2 2)).run Tryd.prog (w.alloc (.cells #[.int .u8 13, .int .u8 10] 5)).drew = .ok (.slice (some ⟨w.heap.size, 0, none⟩) 2 2) (w.alloc (.cells #[.int .u8 13, .int .u8 10] 5 (2, 3))).drew :=
  Lib.run_convert_bytes_const (P := Tryd.prog) w.drew 26 5 #[.int .u8 13, .int .u8 10] 2 2 Tryd.underlying26 Tryd.underlying5
theorem ends_cells (w : World) : (w.alloc (.cells #[.int .u8 13, .int .u8 10] 5 (2, 3))).drew.cell? ⟨w.heap.size, 0, none⟩ = some (.int .u8 13) ∧ (w.alloc (.cells #[.int .u8 13, .int .u8 10] 5 (2, 3))).drew.cell? ⟨w.heap.size, 1, none⟩ = some (.int .u8 10) := by
  have hh := heap_alloc_new w (.cells #[.int .u8 13, .int .u8 10] 5 (2, 3))
  exact ⟨by show (w.alloc _).cell? _ = _; simp only [World.cell?, hh]; rfl, by show (w.alloc _).cell? _ = _; simp only [World.cell?, hh]; rfl⟩
theorem keep4 {W : World} {s : Nat} {t : TypeId} {v0 v1 v2 v3 : Value} (h : Blk W s t #[v0, v1, v2, v3]) : W.cell? ⟨s, 0, none⟩ = some v0 ∧ W.cell? ⟨s, 1, none⟩ = some v1 ∧ W.cell? ⟨s, 2, none⟩ = some v2 ∧ W.cell? ⟨s, 3, none⟩ = some v3 := (blk4 h).1
theorem Blk.drewn {W : World} {s : Nat} {t : TypeId} {cs : Array Value} (h : Blk W s t cs) (n : Nat) : Blk (W.drewN n) s t cs := h
/-- What line hands back. -/
def LnPost (w : World) (s : Nat) (pv : Option Addr) (n cv a k e : Nat) (o : Option Nat) (x : Ending) (w' : World) : Prop :=
  match o with
  | some i => x = .returned (.tuple #[.int .i64 ((e : Int) + i), .bool true]) ∧ Below w.heap.size w w'
  | none => x = .returned (.tuple #[.int .i64 0, .bool false]) ∧ ∃ e' : Nat, e' ≤ n ∧ Blk w' s 49 #[.slice pv n cv, .int .i64 a, .int .i64 k, .int .i64 e'] ∧ w.grownBy w' (some s)

set_option maxRecDepth 100000 in
set_option maxHeartbeats 3200000 in
theorem line_any (s : Nat) (pv : Option Addr) (l : List UInt8) (cv a k e : Nat) (w : World) (h : Blk w s 49 #[.slice pv l.length cv, .int .i64 a, .int .i64 k, .int .i64 e]) (hb : Bys w w.heap.size pv l) (hn : l.length ≤ 1048576) (he : e ≤ l.length) (hcv : l.length ≤ cv) (hpv : pv = none → cv = 0) (hM : StdM w) :
    Calls Tryd.prog 24 #[.pointer (some ⟨s, 0, none⟩)] w (LnPost w s pv l.length cv a k e (findE (l.drop e))) := by
  have H := Lib.hid h
  obtain ⟨⟨c0, c1, c2, c3⟩, ⟨z0, z1, z2, z3⟩⟩ := blk4 h
  have hsl : s < w.heap.size := h.lt
  have hn1 : (l.length : Int) ≤ 1048576 := by omega
  have he1 : (e : Int) ≤ l.length := by omega
  have hcv1 : (l.length : Int) ≤ cv := by omega
  obtain ⟨pe, hpe⟩ : ∃ pe, (if cv = e then pv else pv.map (·.add e)) = pe := ⟨_, rfl⟩
  have HC : Hid (∀ (W : World) (g : Nat), Below w.heap.size w W → W.cell? ⟨g, 0, none⟩ = some (.int .u8 13) → W.cell? ⟨g, 1, none⟩ = some (.int .u8 10) →
      Calls Tryd.prog 37 #[.slice pe (l.length - e) (cv - e), .slice (some ⟨g, 0, none⟩) 2 2] W fun x w' => x = .returned (.int .i64 (ixV (findE (l.drop e)))) ∧ ∃ q, w' = W.drewN q) := Lib.hid (fun W g hW h13 h10 => by
    have h := ends_any (if cv = e then pv else pv.map (·.add e)) (cv - e) g (l.drop e) W (((hb.from_if e cv hcv).below hW).more hW.size) (by rw [List.length_drop]; omega) (by rw [List.length_drop]; omega) (fun hh => by
      split at hh
      · omega
      · rw [Option.map_eq_none_iff] at hh
        have := hpv hh
        omega) h13 h10 (hM.below hW)
    rw [List.length_drop, hpe] at h
    exact h)
  have hcnv := conv_ends
  have HFE : Hid (∀ i, findE (l.drop e) = some i → i + e < l.length) := Lib.hid (fun i hi => by have := findE_some hi; rw [List.length_drop] at this; omega)
  clear h hb hM
  generalize findE (l.drop e) = o at *
  generalize l.length = n at *
  cases o with
  | some i =>
    have hi1 : (i : Int) + e < n := by have := HFE.out i rfl; omega
    change Hid (∀ (W : World) (g : Nat), Below w.heap.size w W → W.cell? ⟨g, 0, none⟩ = some (.int .u8 13) → W.cell? ⟨g, 1, none⟩ = some (.int .u8 10) →
      Calls Tryd.prog 37 #[.slice pe (n - e) (cv - e), .slice (some ⟨g, 0, none⟩) 2 2] W fun x w' => x = .returned (.int .i64 (i : Int)) ∧ ∃ q, w' = W.drewN q) at HC
    go_enter Tryd.func24, Tryd.ntmps24
    go_wp2_with fail
    refine wp_region_noPanic ?_
    refine wp_region_held_drew (S := (fun W => W.cell? ⟨s, 0, none⟩ = some (.slice pv n cv) ∧ W.cell? ⟨s, 1, none⟩ = some (.int .i64 a) ∧ W.cell? ⟨s, 2, none⟩ = some (.int .i64 k) ∧ W.cell? ⟨s, 3, none⟩ = some (.int .i64 e))) (by kernel_rfl) ?_ (fun hHeldA => ?_)
    · first | (dsimp only; ((refine keep4 (t := 49) ?_; (repeat (first | with_reducible refine Blk.drew ?_ | with_reducible refine Blk.drewn ?_ _ | with_reducible refine Blk.past ?_ _)); with_reducible exact H.out))) | ((refine keep4 (t := 49) ?_; (repeat (first | with_reducible refine Blk.drew ?_ | with_reducible refine Blk.drewn ?_ _ | with_reducible refine Blk.past ?_ _)); with_reducible exact H.out))
    refine wpAnyH_take (i := 0) (v := ?_) rfl (by kernel_rfl) (by kernel_rfl) (by kernel_rfl) (fun _ _ _ h => h) (Or.inl ⟨by rfl, ?_⟩) (by assumption) ?_
    rotate_left
    · intro w hSw
      try dsimp only at hSw
      go_simp
      try with_reducible rfl
    try simp only [List.getElem_toArray, List.getElem_cons_zero, List.getElem_cons_succ, Act.put, List.setIfInBounds_toArray, List.set_cons_zero, List.set_cons_succ]
    refine wpAnyH_take (i := 1) (v := ?_) rfl (by kernel_rfl) (by kernel_rfl) (by kernel_rfl) (fun _ _ _ h => h) (Or.inl ⟨by rfl, ?_⟩) (by assumption) ?_
    rotate_left
    · intro w hSw
      try dsimp only at hSw
      go_simp
      try with_reducible rfl
    try simp only [List.getElem_toArray, List.getElem_cons_zero, List.getElem_cons_succ, Act.put, List.setIfInBounds_toArray, List.set_cons_zero, List.set_cons_succ]
    refine wpAnyH_take (i := 2) (v := ?_) rfl (by kernel_rfl) (by kernel_rfl) (by kernel_rfl) (fun _ _ _ h => h) (Or.inl ⟨by rfl, ?_⟩) (by assumption) ?_
    rotate_left
    · intro w hSw
      try dsimp only at hSw
      go_simp
      try with_reducible rfl
    try simp only [List.getElem_toArray, List.getElem_cons_zero, List.getElem_cons_succ, Act.put, List.setIfInBounds_toArray, List.set_cons_zero, List.set_cons_succ]
    refine wpAnyH_take (i := 3) (v := ?_) rfl (by kernel_rfl) (by kernel_rfl) (by kernel_rfl) (fun _ _ _ h => h) (Or.inl ⟨by rfl, ?_⟩) (by assumption) ?_
    rotate_left
    · intro w hSw
      try dsimp only at hSw
      go_simp
      try with_reducible rfl
    try simp only [List.getElem_toArray, List.getElem_cons_zero, List.getElem_cons_succ, Act.put, List.setIfInBounds_toArray, List.set_cons_zero, List.set_cons_succ]
    refine wpAnyH_take (i := 4) (v := ?_) rfl (by kernel_rfl) (by kernel_rfl) (by kernel_rfl) (fun _ _ _ h => h) (Or.inl ⟨by rfl, ?_⟩) (by assumption) ?_
    rotate_left
    · intro w hSw
      try dsimp only at hSw
      go_simp
      try with_reducible rfl
    try simp only [List.getElem_toArray, List.getElem_cons_zero, List.getElem_cons_succ, Act.put, List.setIfInBounds_toArray, List.set_cons_zero, List.set_cons_succ]
    refine wpAnyH_take (i := 5) (v := ?_) rfl (by kernel_rfl) (by kernel_rfl) (by kernel_rfl) (fun _ _ _ h => h) (Or.inl ⟨by rfl, ?_⟩) (by assumption) ?_
    rotate_left
    · intro w hSw
      try dsimp only at hSw
      go_simp
      try with_reducible rfl
    try simp only [List.getElem_toArray, List.getElem_cons_zero, List.getElem_cons_succ, Act.put, List.setIfInBounds_toArray, List.set_cons_zero, List.set_cons_succ]
    refine wpAnyH_take (i := 6) (v := ?_) rfl (by kernel_rfl) (by kernel_rfl) (by kernel_rfl) (fun _ _ _ h => h) (Or.inl ⟨by rfl, ?_⟩) (by assumption) ?_
    rotate_left
    · intro w hSw
      try dsimp only at hSw
      go_simp
      try with_reducible rfl
    try simp only [List.getElem_toArray, List.getElem_cons_zero, List.getElem_cons_succ, Act.put, List.setIfInBounds_toArray, List.set_cons_zero, List.set_cons_succ]
    refine wpAnyH_take (i := 7) (v := ?_) rfl (by kernel_rfl) (by kernel_rfl) (by kernel_rfl) (fun _ _ _ h => h) (Or.inl ⟨by rfl, ?_⟩) (by assumption) ?_
    rotate_left
    · intro w hSw
      try dsimp only at hSw
      go_simp
      try with_reducible rfl
    try simp only [List.getElem_toArray, List.getElem_cons_zero, List.getElem_cons_succ, Act.put, List.setIfInBounds_toArray, List.set_cons_zero, List.set_cons_succ]
    refine wpAnyH_take (i := 8) (v := ?_) rfl (by kernel_rfl) (by kernel_rfl) (by kernel_rfl) (fun _ _ _ h => h) (Or.inl ⟨by rfl, ?_⟩) (by assumption) ?_
    rotate_left
    · intro w hSw
      try dsimp only at hSw
      go_simp
      try with_reducible rfl
    try simp only [List.getElem_toArray, List.getElem_cons_zero, List.getElem_cons_succ, Act.put, List.setIfInBounds_toArray, List.set_cons_zero, List.set_cons_succ]
    refine wpAnyH_ready (rs := [9]) (by kernel_rfl) (by simp) ?_
    refine AllReadyH.cons rfl (fun K hK => ?_) AllReadyH.nil
    try simp only [List.getElem_toArray, List.getElem_cons_zero, List.getElem_cons_succ]
    go_simp
    first | (with_reducible refine hK.out _ _ ?_ (fun hHeldB => ?_)) | (go_wp2_with fail; refine hK.out _ _ ?_ (fun hHeldB => ?_))
    · first | (dsimp only; ((refine keep4 (t := 49) ?_; (repeat (first | with_reducible refine Blk.drew ?_ | with_reducible refine Blk.drewn ?_ _ | with_reducible refine Blk.past ?_ _)); with_reducible exact H.out))) | ((refine keep4 (t := 49) ?_; (repeat (first | with_reducible refine Blk.drew ?_ | with_reducible refine Blk.drewn ?_ _ | with_reducible refine Blk.past ?_ _)); with_reducible exact H.out))
    clear hK K hHeldA
    try simp only [Act.put, List.setIfInBounds_toArray, List.set_cons_zero, List.set_cons_succ]
    refine wpAnyH_ready (rs := [10]) (by kernel_rfl) (by simp) ?_
    refine AllReadyH.cons rfl (fun K hK => ?_) AllReadyH.nil
    try simp only [List.getElem_toArray, List.getElem_cons_zero, List.getElem_cons_succ]
    go_simp
    first | (with_reducible refine hK.out _ _ ?_ (fun hHeldA => ?_)) | (go_wp2_with fail; refine hK.out _ _ ?_ (fun hHeldA => ?_))
    · first | (dsimp only; ((refine keep4 (t := 49) ?_; (repeat (first | with_reducible refine Blk.drew ?_ | with_reducible refine Blk.drewn ?_ _ | with_reducible refine Blk.past ?_ _)); with_reducible exact H.out))) | ((refine keep4 (t := 49) ?_; (repeat (first | with_reducible refine Blk.drew ?_ | with_reducible refine Blk.drewn ?_ _ | with_reducible refine Blk.past ?_ _)); with_reducible exact H.out))
    clear hK K hHeldB
    try simp only [Act.put, List.setIfInBounds_toArray, List.set_cons_zero, List.set_cons_succ]
    refine wpAnyH_ready (rs := [11]) (by kernel_rfl) (by simp) ?_
    refine AllReadyH.cons rfl (fun K hK => ?_) AllReadyH.nil
    try simp only [List.getElem_toArray, List.getElem_cons_zero, List.getElem_cons_succ]
    go_simp
    (first
        | (go_at_call 37; refine (HC.out _ _ (by (first | exact (Below.refl _ _).drew.alloc (Nat.le_refl _) _)) (by exact (ends_cells w).1) (by exact (ends_cells w).2)).mono ?_; rintro x w2 ⟨rfl, q, rfl⟩))
    first | (with_reducible refine hK.out _ _ ?_ (fun hHeldB => ?_)) | (go_wp2_with fail; refine hK.out _ _ ?_ (fun hHeldB => ?_))
    · first | (dsimp only; ((refine keep4 (t := 49) ?_; (repeat (first | with_reducible refine Blk.drew ?_ | with_reducible refine Blk.drewn ?_ _ | with_reducible refine Blk.past ?_ _)); with_reducible exact H.out))) | ((refine keep4 (t := 49) ?_; (repeat (first | with_reducible refine Blk.drew ?_ | with_reducible refine Blk.drewn ?_ _ | with_reducible refine Blk.past ?_ _)); with_reducible exact H.out))
    clear hK K hHeldA
    try simp only [Act.put, List.setIfInBounds_toArray, List.set_cons_zero, List.set_cons_succ]
    refine wpAnyH_take (i := 12) (v := ?_) rfl (by kernel_rfl) (by kernel_rfl) (by kernel_rfl) (fun _ _ _ h => h) (Or.inl ⟨by rfl, ?_⟩) (by assumption) ?_
    rotate_left
    · intro w hSw
      try dsimp only at hSw
      go_simp
      try with_reducible rfl
    try simp only [List.getElem_toArray, List.getElem_cons_zero, List.getElem_cons_succ, Act.put, List.setIfInBounds_toArray, List.set_cons_zero, List.set_cons_succ]
    refine wpAnyH_done (by kernel_rfl) ?_ _
    refine NoPanic.normal ?_
    all_goals
      go_wp2_with fail
      go_ret2
      exact ⟨rfl, Below.many ((Below.refl _ _).alloc (Nat.le_refl _) _) _⟩
  | none =>
    change Hid (∀ (W : World) (g : Nat), Below w.heap.size w W → W.cell? ⟨g, 0, none⟩ = some (.int .u8 13) → W.cell? ⟨g, 1, none⟩ = some (.int .u8 10) →
      Calls Tryd.prog 37 #[.slice pe (n - e) (cv - e), .slice (some ⟨g, 0, none⟩) 2 2] W fun x w' => x = .returned (.int .i64 (-1)) ∧ ∃ q, w' = W.drewN q) at HC
    obtain ⟨e2, he2, hle2⟩ : ∃ e2 : Nat, max (e : Int) ((n : Int) - 1) = e2 ∧ e2 ≤ n := ⟨max e (n - 1), by omega, by omega⟩
    go_enter Tryd.func24, Tryd.ntmps24
    go_wp2_with fail
    refine wp_region_noPanic ?_
    refine wp_region_held_drew (S := (fun W => W.cell? ⟨s, 0, none⟩ = some (.slice pv n cv) ∧ W.cell? ⟨s, 1, none⟩ = some (.int .i64 a) ∧ W.cell? ⟨s, 2, none⟩ = some (.int .i64 k) ∧ W.cell? ⟨s, 3, none⟩ = some (.int .i64 e))) (by kernel_rfl) ?_ (fun hHeldA => ?_)
    · first | (dsimp only; ((refine keep4 (t := 49) ?_; (repeat (first | with_reducible refine Blk.drew ?_ | with_reducible refine Blk.drewn ?_ _ | with_reducible refine Blk.past ?_ _)); with_reducible exact H.out))) | ((refine keep4 (t := 49) ?_; (repeat (first | with_reducible refine Blk.drew ?_ | with_reducible refine Blk.drewn ?_ _ | with_reducible refine Blk.past ?_ _)); with_reducible exact H.out))
    refine wpAnyH_take (i := 0) (v := ?_) rfl (by kernel_rfl) (by kernel_rfl) (by kernel_rfl) (fun _ _ _ h => h) (Or.inl ⟨by rfl, ?_⟩) (by assumption) ?_
    rotate_left
    · intro w hSw
      try dsimp only at hSw
      go_simp
      try with_reducible rfl
    try simp only [List.getElem_toArray, List.getElem_cons_zero, List.getElem_cons_succ, Act.put, List.setIfInBounds_toArray, List.set_cons_zero, List.set_cons_succ]
    refine wpAnyH_take (i := 1) (v := ?_) rfl (by kernel_rfl) (by kernel_rfl) (by kernel_rfl) (fun _ _ _ h => h) (Or.inl ⟨by rfl, ?_⟩) (by assumption) ?_
    rotate_left
    · intro w hSw
      try dsimp only at hSw
      go_simp
      try with_reducible rfl
    try simp only [List.getElem_toArray, List.getElem_cons_zero, List.getElem_cons_succ, Act.put, List.setIfInBounds_toArray, List.set_cons_zero, List.set_cons_succ]
    refine wpAnyH_take (i := 2) (v := ?_) rfl (by kernel_rfl) (by kernel_rfl) (by kernel_rfl) (fun _ _ _ h => h) (Or.inl ⟨by rfl, ?_⟩) (by assumption) ?_
    rotate_left
    · intro w hSw
      try dsimp only at hSw
      go_simp
      try with_reducible rfl
    try simp only [List.getElem_toArray, List.getElem_cons_zero, List.getElem_cons_succ, Act.put, List.setIfInBounds_toArray, List.set_cons_zero, List.set_cons_succ]
    refine wpAnyH_take (i := 3) (v := ?_) rfl (by kernel_rfl) (by kernel_rfl) (by kernel_rfl) (fun _ _ _ h => h) (Or.inl ⟨by rfl, ?_⟩) (by assumption) ?_
    rotate_left
    · intro w hSw
      try dsimp only at hSw
      go_simp
      try with_reducible rfl
    try simp only [List.getElem_toArray, List.getElem_cons_zero, List.getElem_cons_succ, Act.put, List.setIfInBounds_toArray, List.set_cons_zero, List.set_cons_succ]
    refine wpAnyH_take (i := 4) (v := ?_) rfl (by kernel_rfl) (by kernel_rfl) (by kernel_rfl) (fun _ _ _ h => h) (Or.inl ⟨by rfl, ?_⟩) (by assumption) ?_
    rotate_left
    · intro w hSw
      try dsimp only at hSw
      go_simp
      try with_reducible rfl
    try simp only [List.getElem_toArray, List.getElem_cons_zero, List.getElem_cons_succ, Act.put, List.setIfInBounds_toArray, List.set_cons_zero, List.set_cons_succ]
    refine wpAnyH_take (i := 5) (v := ?_) rfl (by kernel_rfl) (by kernel_rfl) (by kernel_rfl) (fun _ _ _ h => h) (Or.inl ⟨by rfl, ?_⟩) (by assumption) ?_
    rotate_left
    · intro w hSw
      try dsimp only at hSw
      go_simp
      try with_reducible rfl
    try simp only [List.getElem_toArray, List.getElem_cons_zero, List.getElem_cons_succ, Act.put, List.setIfInBounds_toArray, List.set_cons_zero, List.set_cons_succ]
    refine wpAnyH_take (i := 6) (v := ?_) rfl (by kernel_rfl) (by kernel_rfl) (by kernel_rfl) (fun _ _ _ h => h) (Or.inl ⟨by rfl, ?_⟩) (by assumption) ?_
    rotate_left
    · intro w hSw
      try dsimp only at hSw
      go_simp
      try with_reducible rfl
    try simp only [List.getElem_toArray, List.getElem_cons_zero, List.getElem_cons_succ, Act.put, List.setIfInBounds_toArray, List.set_cons_zero, List.set_cons_succ]
    refine wpAnyH_take (i := 7) (v := ?_) rfl (by kernel_rfl) (by kernel_rfl) (by kernel_rfl) (fun _ _ _ h => h) (Or.inl ⟨by rfl, ?_⟩) (by assumption) ?_
    rotate_left
    · intro w hSw
      try dsimp only at hSw
      go_simp
      try with_reducible rfl
    try simp only [List.getElem_toArray, List.getElem_cons_zero, List.getElem_cons_succ, Act.put, List.setIfInBounds_toArray, List.set_cons_zero, List.set_cons_succ]
    refine wpAnyH_take (i := 8) (v := ?_) rfl (by kernel_rfl) (by kernel_rfl) (by kernel_rfl) (fun _ _ _ h => h) (Or.inl ⟨by rfl, ?_⟩) (by assumption) ?_
    rotate_left
    · intro w hSw
      try dsimp only at hSw
      go_simp
      try with_reducible rfl
    try simp only [List.getElem_toArray, List.getElem_cons_zero, List.getElem_cons_succ, Act.put, List.setIfInBounds_toArray, List.set_cons_zero, List.set_cons_succ]
    refine wpAnyH_ready (rs := [9]) (by kernel_rfl) (by simp) ?_
    refine AllReadyH.cons rfl (fun K hK => ?_) AllReadyH.nil
    try simp only [List.getElem_toArray, List.getElem_cons_zero, List.getElem_cons_succ]
    go_simp
    first | (with_reducible refine hK.out _ _ ?_ (fun hHeldB => ?_)) | (go_wp2_with fail; refine hK.out _ _ ?_ (fun hHeldB => ?_))
    · first | (dsimp only; ((refine keep4 (t := 49) ?_; (repeat (first | with_reducible refine Blk.drew ?_ | with_reducible refine Blk.drewn ?_ _ | with_reducible refine Blk.past ?_ _)); with_reducible exact H.out))) | ((refine keep4 (t := 49) ?_; (repeat (first | with_reducible refine Blk.drew ?_ | with_reducible refine Blk.drewn ?_ _ | with_reducible refine Blk.past ?_ _)); with_reducible exact H.out))
    clear hK K hHeldA
    try simp only [Act.put, List.setIfInBounds_toArray, List.set_cons_zero, List.set_cons_succ]
    refine wpAnyH_ready (rs := [10]) (by kernel_rfl) (by simp) ?_
    refine AllReadyH.cons rfl (fun K hK => ?_) AllReadyH.nil
    try simp only [List.getElem_toArray, List.getElem_cons_zero, List.getElem_cons_succ]
    go_simp
    first | (with_reducible refine hK.out _ _ ?_ (fun hHeldA => ?_)) | (go_wp2_with fail; refine hK.out _ _ ?_ (fun hHeldA => ?_))
    · first | (dsimp only; ((refine keep4 (t := 49) ?_; (repeat (first | with_reducible refine Blk.drew ?_ | with_reducible refine Blk.drewn ?_ _ | with_reducible refine Blk.past ?_ _)); with_reducible exact H.out))) | ((refine keep4 (t := 49) ?_; (repeat (first | with_reducible refine Blk.drew ?_ | with_reducible refine Blk.drewn ?_ _ | with_reducible refine Blk.past ?_ _)); with_reducible exact H.out))
    clear hK K hHeldB
    try simp only [Act.put, List.setIfInBounds_toArray, List.set_cons_zero, List.set_cons_succ]
    refine wpAnyH_ready (rs := [11]) (by kernel_rfl) (by simp) ?_
    refine AllReadyH.cons rfl (fun K hK => ?_) AllReadyH.nil
    try simp only [List.getElem_toArray, List.getElem_cons_zero, List.getElem_cons_succ]
    go_simp
    (first
        | (go_at_call 37; refine (HC.out _ _ (by (first | exact (Below.refl _ _).drew.alloc (Nat.le_refl _) _)) (by exact (ends_cells w).1) (by exact (ends_cells w).2)).mono ?_; rintro x w2 ⟨rfl, q, rfl⟩))
    first | (with_reducible refine hK.out _ _ ?_ (fun hHeldB => ?_)) | (go_wp2_with fail; refine hK.out _ _ ?_ (fun hHeldB => ?_))
    · first | (dsimp only; ((refine keep4 (t := 49) ?_; (repeat (first | with_reducible refine Blk.drew ?_ | with_reducible refine Blk.drewn ?_ _ | with_reducible refine Blk.past ?_ _)); with_reducible exact H.out))) | ((refine keep4 (t := 49) ?_; (repeat (first | with_reducible refine Blk.drew ?_ | with_reducible refine Blk.drewn ?_ _ | with_reducible refine Blk.past ?_ _)); with_reducible exact H.out))
    clear hK K hHeldA
    try simp only [Act.put, List.setIfInBounds_toArray, List.set_cons_zero, List.set_cons_succ]
    refine wpAnyH_take (i := 12) (v := ?_) rfl (by kernel_rfl) (by kernel_rfl) (by kernel_rfl) (fun _ _ _ h => h) (Or.inl ⟨by rfl, ?_⟩) (by assumption) ?_
    rotate_left
    · intro w hSw
      try dsimp only at hSw
      go_simp
      try with_reducible rfl
    try simp only [List.getElem_toArray, List.getElem_cons_zero, List.getElem_cons_succ, Act.put, List.setIfInBounds_toArray, List.set_cons_zero, List.set_cons_succ]
    refine wpAnyH_done (by kernel_rfl) ?_ _
    refine NoPanic.normal ?_
    all_goals
      have HB2 : Hid (Blk ((w.alloc (.cells #[.int .u8 13, .int .u8 10] 5 (2, 3))).drewN (1 + q)) s 49 #[.slice pv n cv, .int .i64 a, .int .i64 k, .int .i64 e]) := Lib.hid ((Blk.past H.out _).drewn _)
      obtain ⟨⟨d0, d1, d2, d3⟩, ⟨y0, y1, y2, y3⟩⟩ := blk4 HB2.out
      go_wp2_with fail
      go_region
      all_goals
        go_wp2_with fail
        go_ret2
        refine ⟨rfl, e2, hle2, ?_, ?_⟩
        · have hp := HB2.out.put 3 (.int .i64 e2)
          simp only [List.setIfInBounds_toArray, List.set_cons_zero, List.set_cons_succ] at hp
          exact hp
        · exact grown_put (grown_drewN (grown_alloc (World.grownBy.refl w _) _) _) _ _
end Go.Proofs.YtllboenffepcgaaDoor
namespace Go.Proofs.YtllboenffepcgaaDoor
open Go.RowKit

theorem BysL.of_buf2 {W : World} {lo c : Nat} {p : Option Addr} {l : List UInt8} (h : Buf W lo 1 (.slice p l.length c) l.length (Lib.byteCells l)) : BysL W (fun k => lo ≤ k ∧ k < W.heap.size) p l := fun h0 => by
  obtain ⟨b, o, e, h1, h2, h3⟩ := BysL.of_buf h h0
  exact ⟨b, o, e, ⟨h1, h2⟩, h2, h3⟩
theorem bcell {W w1 : World} (hb : Below W.heap.size W w1) : (∀ b o, b < W.heap.size → w1.cell? ⟨b, o, none⟩ = W.cell? ⟨b, o, none⟩) ∧ (∀ b o, b < W.heap.size → w1.frozen? ⟨b, o, none⟩ = W.frozen? ⟨b, o, none⟩) :=
  ⟨fun b o h => hb.cell (p := ⟨b, o, none⟩) h, fun b o h => hb.frozen (p := ⟨b, o, none⟩) h⟩
theorem KeptOn.put {ok : Nat → Prop} {A B : World} (h : KeptOn ok A B) {g : Nat} (hg : ¬ ok g) (o : Nat) (v : Value) : KeptOn ok A (B.setCell ⟨g, o, none⟩ v) :=
  ⟨by rw [setCell_size']; exact h.1, fun k hk ho => (Below.heap_setCell B ⟨g, o, none⟩ v k (by rintro rfl; exact hg ho)).trans (h.2 k hk ho)⟩
theorem Buf.on {w w' : World} {base size n : Nat} {v : Value} {xs : List Value} (h : Buf w base size v n xs) (hk : KeptOn (fun k => base ≤ k) w w') : Buf w' base size v n xs :=
  h.kept hk.1 fun k h1 h2 => hk.2 k h1 (by
    rcases h.2 with ⟨e, _⟩ | ⟨g, off, cap, e, hg, _⟩
    · rw [e] at h2; cases h2
    · rw [e] at h2; simp only [Value.ownBlock, Option.some.injEq] at h2; omega)
/-- What finish hands back. -/
def FinPost (w : World) (s : Nat) (kind : Int) (d b : List UInt8) (x : Ending) (w' : World) : Prop :=
  ∃ p1 c1 r', x = .returned (.tuple #[.agg #[.int .i64 kind, .slice p1 d.length c1], .bool true]) ∧ BysL w' (fun i => w.heap.size ≤ i ∧ r' ≠ some i) p1 d ∧ Spl w' s r' b 0 ∧ (∀ g, r' = some g → w.heap.size ≤ g) ∧ w.grownBy w' (some s)
theorem fin_post {w w' : World} {s : Nat} {kind : Int} {d b : List UInt8} {p1 : Option Addr} {c1 m : Nat} {v2 : Value} (hd : BysL w' (fun i => w.heap.size ≤ i ∧ i < m) p1 d) (hm : w.heap.size ≤ m) (hs : s < w.heap.size) (hB : Blk w' s 49 #[v2, .int .i64 0, .int .i64 0, .int .i64 0]) (hv : Buf w' m 1 v2 b.length (Lib.byteCells b)) (hg : w.grownBy w' (some s)) :
    FinPost w s kind d b (.returned (.tuple #[.agg #[.int .i64 kind, .slice p1 d.length c1], .bool true])) w' := by
  have hr : ∀ g, v2.ownBlock = some g → m ≤ g := fun g e => by
    rcases hv.2 with ⟨e2, _⟩ | ⟨g', off, cap, e2, h1, _⟩
    · rw [e2] at e; cases e
    · rw [e2] at e; simp only [Value.ownBlock, Option.some.injEq] at e; omega
  refine ⟨p1, c1, v2.ownBlock, rfl, fun h0 => ?_, ⟨v2, 0, 0, 0, hB, hv.mono (Nat.zero_le _), rfl, rfl, by omega, by omega, by omega, fun e => by have := hr s e; omega⟩, fun g e => by have := hr g e; omega, hg⟩
  obtain ⟨b', o, e, ⟨h1, h2⟩, h3⟩ := hd h0
  exact ⟨b', o, e, ⟨h1, fun e2 => by have := hr _ e2; omega⟩, h3⟩

set_option maxRecDepth 100000 in
set_option maxHeartbeats 1600000 in
theorem finish_any (s : Nat) (av ad : Addr) (b d : List UInt8) (cv cd n : Nat) (a k e kind : Int) (w : World) (h : Blk w s 49 #[.slice (some av) b.length cv, .int .i64 a, .int .i64 k, .int .i64 e]) (hb : Bys w w.heap.size (some av) b) (hd : Bys w w.heap.size (some ad) d) (hn : n ≤ b.length) (hcv : b.length ≤ cv) (hbl : b.length ≤ 1048576) (hdl : d.length ≤ 1048576) :
    Calls Tryd.prog 26 #[.pointer (some ⟨s, 0, none⟩), .int .i64 kind, .slice (some ad) d.length cd, .int .i64 n] w (FinPost w s kind d (b.drop n)) := by
  have H := Lib.hid h
  have hsl := h.lt
  obtain ⟨⟨c0, c1, c2, c3⟩, ⟨z0, z1, z2, z3⟩⟩ := blk4 h
  obtain ⟨q, hq⟩ : ∃ q, (if cv = n then some av else some (av.add n)) = some q := by split <;> exact ⟨_, rfl⟩
  have HC1 := Lib.hid (fun (W : World) (hW : Below w.heap.size w W) => clone_some ad cd d.length d rfl W ((hd.below hW).more hW.size) hdl)
  have HC2 := Lib.hid (fun (W : World) (hW : Below w.heap.size w W) => clone_some q (cv - n) (b.length - n) (b.drop n) (List.length_drop ..) W (((by have := hb.from_if n cv hcv; rw [Option.map_some, hq] at this; exact this : Bys w w.heap.size (some q) (b.drop n)).below hW).more hW.size) (by rw [List.length_drop]; omega))
  have hn1 : (n : Int) ≤ b.length := by omega
  have hcv1 : (b.length : Int) ≤ cv := by omega
  clear h hb hd
  generalize hB : b.drop n = bn at *
  clear hB
  go_enter Tryd.func26, Tryd.ntmps26
  go_wp2_with fail
  refine (HC1.out _ (by exact (Below.refl _ _).alloc (Nat.le_refl _) _)).mono ?_
  rintro x w1 ⟨v1, rfl, hbuf1, hb1⟩
  obtain ⟨p1, cc1, rfl, -, -⟩ := hbuf1.bys
  have hbL := BysL.of_buf2 hbuf1
  have hz : w.heap.size + 1 ≤ w1.heap.size := by have := hb1.size; rw [World.size_alloc] at this; exact this
  have hz1 : w.heap.size < w1.heap.size := by omega
  have hs1 : s < w1.heap.size := by omega
  have hB1 : Blk w1 s 49 #[.slice (some av) b.length cv, .int .i64 a, .int .i64 k, .int .i64 e] := (H.out.past _).below hb1 (by rw [World.size_alloc]; omega)
  obtain ⟨⟨d0, d1, d2, d3⟩, ⟨y0, y1, y2, y3⟩⟩ := blk4 hB1
  have hR1 := (Blk.made w 37 #[.int .i64 0, .slice none 0 0]).below hb1 (by rw [World.size_alloc]; omega)
  have r0 := hR1.cell 0
  have r1 := hR1.cell 1
  have x0 := hR1.frz 0
  have x1 := hR1.frz 1
  simp only [List.getElem?_toArray, List.getElem?_cons_zero, List.getElem?_cons_succ] at r0 r1
  have HH := Lib.hid (And.intro hbL (And.intro hb1 (And.intro hB1 hR1)))
  clear hbL hbuf1 hb1 hB1 hR1
  go_wp2_with fail
  refine (HC2.out _ (by exact ((((Below.refl _ _).alloc (Nat.le_refl _) _).trans (HH.out.2.1.mono (by rw [World.size_alloc]; omega))).alloc (by omega) _))).mono ?_
  rintro x w2 ⟨v2, rfl, hbuf2, hb2⟩
  obtain ⟨p2, cc2, rfl, -, -⟩ := hbuf2.bys
  obtain ⟨hbL, hb1, hB1, hR1⟩ := HH.out
  have hz2 : w1.heap.size + 1 ≤ w2.heap.size := by have := hb2.size; rw [World.size_alloc] at this; exact this
  have hb2' : Below w1.heap.size w1 w2 := ((Below.refl _ _).alloc (Nat.le_refl _) _).trans (hb2.mono (by rw [World.size_alloc]; omega))
  have hB2 : Blk w2 s 49 #[.slice (some av) b.length cv, .int .i64 a, .int .i64 k, .int .i64 e] := hB1.below hb2' hs1
  have hR2 := hR1.below hb2' hz1
  have hT2 := (Blk.made w1 37 #[.int .i64 kind, .slice p1 d.length cc1]).below hb2 (by rw [World.size_alloc]; omega)
  have hL2 := hbL.keep (KeptOn.below hb2') (fun i _ h => h)
  have hs2 : s < w2.heap.size := by omega
  have hne : s ≠ w.heap.size := by omega
  have hne1 : s ≠ w1.heap.size := by omega
  have hne2 : w.heap.size ≠ w1.heap.size := by omega
  obtain ⟨⟨f0, f1, f2, f3⟩, ⟨g0, g1, g2, g3⟩⟩ := blk4 hB2
  have r0' := hR2.cell 0
  have r1' := hR2.cell 1
  have x0' := hR2.frz 0
  have x1' := hR2.frz 1
  have t0' := hT2.cell 0
  have t1' := hT2.cell 1
  simp only [List.getElem?_toArray, List.getElem?_cons_zero, List.getElem?_cons_succ] at r0' r1' t0' t1'
  have HG := Lib.hid (And.intro hL2 (And.intro hb2' (And.intro hB2 (And.intro hR2 (And.intro hT2 (And.intro hbuf2 hb1))))))
  clear hL2 hb2' hB2 hR2 hT2 hbL hb1 hB1 hR1 hbuf2 hb2 d0 d1 d2 d3 y0 y1 y2 y3 r0 r1 x0 x1
  go_wp2_with fail
  obtain ⟨hL2, hb2', hB2, hR2, hT2, hbuf2, hb1⟩ := HG.out
  have hp := (((hB2.put 0 (.slice p2 bn.length cc2)).put 1 (.int .i64 0)).put 2 (.int .i64 0)).put 3 (.int .i64 0)
  simp only [List.setIfInBounds_toArray, List.set_cons_zero, List.set_cons_succ] at hp
  have hp2 := (hp.far (p := ⟨w.heap.size, 0, none⟩) hne (.int .i64 kind)).far (p := ⟨w.heap.size, 1, none⟩) hne (.slice p1 d.length cc1)
  have hr := ((((((hR2.far (p := ⟨s, 0, none⟩) hne.symm (.slice p2 bn.length cc2)).far (p := ⟨s, 1, none⟩) hne.symm (.int .i64 0)).far (p := ⟨s, 2, none⟩) hne.symm (.int .i64 0)).far (p := ⟨s, 3, none⟩) hne.symm (.int .i64 0)).put 0 (.int .i64 kind)).put 1 (.slice p1 d.length cc1))
  simp only [List.setIfInBounds_toArray, List.set_cons_zero, List.set_cons_succ] at hr
  have q0 := hr.cell 0
  have q1 := hr.cell 1
  simp only [List.getElem?_toArray, List.getElem?_cons_zero, List.getElem?_cons_succ] at q0 q1
  have hg0 : w.grownBy w2 (some s) := grown_trans (grown_of_below (((Below.refl _ _).alloc (Nat.le_refl _) _).trans (hb1.mono (by rw [World.size_alloc]; omega))) _) (grown_of_below hb2' _)
  have hg := grown_new (grown_new (grown_put (grown_put (grown_put (grown_put hg0 0 (.slice p2 bn.length cc2)) 1 (.int .i64 0)) 2 (.int .i64 0)) 3 (.int .i64 0)) (Nat.le_refl _) 0 (.int .i64 kind)) (Nat.le_refl _) 1 (.slice p1 d.length cc1)
  rw [World.size_alloc] at hbuf2 hL2
  refine bodyPost_ret (v := .tuple #[.agg #[.int .i64 kind, .slice p1 d.length cc1], .bool true]) (by simp [results, Tryd.results26, go_sem, q0, q1]) rfl (fin_post (m := w1.heap.size) ?_ (by omega) hsl hp2 ?_ hg)
  · exact hL2.keep ((((((KeptOn.refl _ _).put (by omega) _ _).put (by omega) _ _).put (by omega) _ _).put (by omega) _ _ |>.put (by omega) _ _).put (by omega) _ _) (fun i _ h => ⟨by omega, h.2⟩)
  · exact (hbuf2.on ((((((KeptOn.refl _ _).put (by omega) _ _).put (by omega) _ _).put (by omega) _ _).put (by omega) _ _ |>.put (by omega) _ _).put (by omega) _ _)).mono (by omega)
end Go.Proofs.YtllboenffepcgaaDoor
namespace Go.Proofs.YtllboenffepcgaaDoor
open Go.RowKit

/-- What Next hands back. -/
def NxPost (w : World) (s : Nat) (r : Option Nat) (b : List UInt8) (st : St) (p : Nat) (x : Ending) (w' : World) : Prop :=
  w.grownBy w' (some s) ∧ match st with
  | .wait => x = .returned (.tuple #[.agg #[.int .i64 0, .slice none 0 0], .bool false]) ∧ Spl w' s r b p
  | .ready a n => x = .returned (.tuple #[.agg #[.int .i64 2, .slice none 0 0], .bool true]) ∧ Spl w' s r b (a + n)
  | .done f k => ∃ pv c r', x = .returned (.tuple #[.agg #[.int .i64 f.kind, .slice pv f.data.length c], .bool true]) ∧ BysL w' (fun i => w.heap.size ≤ i ∧ r' ≠ some i) pv f.data ∧ Spl w' s r' (b.drop k) 0 ∧ (∀ g, r' = some g → w.heap.size ≤ g)
theorem Spl.grown {W W' : World} {s g : Nat} {r : Option Nat} {b : List UInt8} {p : Nat} (h : Spl W s r b p) (hg : W.grownBy W' (some g)) (h1 : s ≠ g) (h2 : r ≠ some g) : Spl W' s r b p := by
  obtain ⟨v, a, k, e, h3, h4, h5, h6⟩ := h
  exact ⟨v, a, k, e, h3.grown hg (fun e => by injection e with e; exact h1 e), h4.grown hg (fun k hk e => by rw [hk] at h5; exact h2 (by rw [← h5, e])), h5, h6⟩
theorem stepF_short {b : List UInt8} {p : Nat} (h : b.length < p) : stepF b p = .wait := by unfold stepF; rw [if_pos h]
theorem stepF_none {b : List UInt8} {p : Nat} (h : endL b p = none) : stepF b p = .wait := by
  unfold stepF
  rw [h]
  split <;> rfl
theorem stepF_long {b : List UInt8} {p e : Nat} (h : endL b p = some e) (hl : 8192 < ((b.take e).drop p).length) : stepF b p = .done ⟨3, ((b.take e).drop p).take 8192⟩ (e + 2) := by
  have := endL_some h
  unfold stepF
  rw [if_neg (by omega), h]
  simp only
  rw [if_pos hl]
theorem stepF_cmd {b : List UInt8} {p e : Nat} (h : endL b p = some e) (hl : ¬ 8192 < ((b.take e).drop p).length) (ha : annP ((b.take e).drop p) = none) : stepF b p = .done ⟨1, b.take e⟩ (e + 2) := by
  have := endL_some h
  unfold stepF
  rw [if_neg (by omega), h]
  simp only
  rw [if_neg hl, ha]
theorem stepF_big {b : List UInt8} {p e n : Nat} (h : endL b p = some e) (hl : ¬ 8192 < ((b.take e).drop p).length) (ha : annP ((b.take e).drop p) = some n) (hn : 65536 < n) : stepF b p = .done ⟨4, b.take e⟩ (e + 2) := by
  have := endL_some h
  unfold stepF
  rw [if_neg (by omega), h]
  simp only
  rw [if_neg hl, ha]
  simp only
  rw [if_pos hn]
theorem stepF_lit {b : List UInt8} {p e n : Nat} (h : endL b p = some e) (hl : ¬ 8192 < ((b.take e).drop p).length) (ha : annP ((b.take e).drop p) = some n) (hn : ¬ 65536 < n) : stepF b p = .ready (e + 2) n := by
  have := endL_some h
  unfold stepF
  rw [if_neg (by omega), h]
  simp only
  rw [if_neg hl, ha]
  simp only
  rw [if_neg hn]
theorem frm_zero (w : World) : Blk (w.alloc (.cells #[.int .i64 0, .slice none 0 0] 37)) w.heap.size 37 #[.int .i64 0, .slice none 0 0] := Blk.made w _ _
theorem blk2 {W : World} {s : Nat} {t : TypeId} {v0 v1 : Value} (h : Blk W s t #[v0, v1]) :
    W.cell? ⟨s, 0, none⟩ = some v0 ∧ W.cell? ⟨s, 1, none⟩ = some v1 ∧ W.frozen? ⟨s, 0, none⟩ = false ∧ W.frozen? ⟨s, 1, none⟩ = false := by
  refine ⟨?_, ?_, h.frz 0, h.frz 1⟩
  all_goals (rw [h.cell]; rfl)

set_option maxRecDepth 100000 in
set_option maxHeartbeats 1600000 in
theorem next_none (w : World) :
    Calls Tryd.prog 15 #[.pointer none] w fun x w' => x = .returned (.tuple #[.agg #[.int .i64 0, .slice none 0 0], .bool false]) ∧ Below w.heap.size w w' := by
  go_enter Tryd.func15, Tryd.ntmps15
  go_wp2_with fail
  refine bodyPost_ret (v := .tuple #[.agg #[.int .i64 0, .slice none 0 0], .bool false]) (by simp [results, Tryd.results15, go_sem]) rfl ⟨rfl, (Below.refl _ _).alloc (Nat.le_refl _) _⟩

set_option maxRecDepth 100000 in
set_option maxHeartbeats 1600000 in
theorem next_short (s : Nat) (r : Option Nat) (b : List UInt8) (p : Nat) (w : World) (h : Spl w s r b p) (hbl : b.length ≤ 1048576) (hp : b.length < p) :
    Calls Tryd.prog 15 #[.pointer (some ⟨s, 0, none⟩)] w (NxPost w s r b .wait p) := by
  have H := Lib.hid h
  obtain ⟨v, a, k, e, h1, h2, h3, h4, h5, h6, h7, h8⟩ := h
  obtain ⟨pv, cv, rfl, -, -⟩ := h2.bys
  have HC := Lib.hid (literal_no s pv b.length cv a k e _ (h1.past (.cells #[.int .i64 0, .slice none 0 0] 37)) hbl h5 h7 (by omega))
  have hsl := h1.lt
  clear h1 h2 h3 h4 h5 h6 h7 h8 hp hbl
  go_enter Tryd.func15, Tryd.ntmps15
  go_wp2_with fail
  refine HC.out.mono ?_
  rintro x w1 ⟨rfl, j, rfl⟩
  go_wp2_with fail
  obtain ⟨q0, q1, -, -⟩ := blk2 (show Blk _ _ _ #[.int .i64 0, .slice none 0 0] from (((frm_zero w).drewN j).put 0 (.int .i64 0)).put 1 (.slice none 0 0))
  have hb : Below w.heap.size w ((((w.alloc (.cells #[.int .i64 0, .slice none 0 0] 37)).drewN j).setCell ⟨w.heap.size, 0, none⟩ (.int .i64 0)).setCell ⟨w.heap.size, 1, none⟩ (.slice none 0 0)) := ((Below.many ((Below.refl _ _).alloc (Nat.le_refl _) _) j).setCell (Nat.le_refl _) _).setCell (Nat.le_refl _) _
  refine bodyPost_ret (v := .tuple #[.agg #[.int .i64 0, .slice none 0 0], .bool false]) (by simp [results, Tryd.results15, go_sem, q0, q1]) rfl ⟨grown_of_below hb _, rfl, H.out.below hb⟩

theorem Buf.at_once {W : World} {base c : Nat} {p : Option Addr} {l : List UInt8} (h : Buf W base 1 (.slice p l.length c) l.length (Lib.byteCells l)) : Bys W W.heap.size p l ∧ l.length ≤ c ∧ (p = none → c = 0) := by
  obtain ⟨p2, c2, e, hc, hb⟩ := h.bys
  injection e with e1 _ e2
  subst e1 e2
  refine ⟨hb, hc, fun e => ?_⟩
  rcases h.2 with ⟨e2, _⟩ | ⟨g, off, cap, e2, _⟩
  · injection e2
  · injection e2 with e2; rw [e] at e2; cases e2
/-- What the library reads lies below the splitter. -/
def Low (w0 w : World) (s : Nat) : Prop := Below w0.heap.size w0 w ∧ w0.heap.size ≤ s ∧ Std w0 ∧ StdM w0
theorem Low.std {w0 w W : World} {s : Nat} (h : Low w0 w s) (hg : w.grownBy W (some s)) : Std W := h.2.2.1.below (below_grow h.1 hg h.1.size h.2.1)
theorem Low.stdM {w0 w W : World} {s : Nat} (h : Low w0 w s) (hg : w.grownBy W (some s)) : StdM W := h.2.2.2.below (below_grow h.1 hg h.1.size h.2.1)
theorem Low.grown {w0 w W : World} {s : Nat} (h : Low w0 w s) (hg : w.grownBy W (some s)) : Low w0 W s := ⟨below_grow h.1 hg h.1.size h.2.1, h.2⟩
theorem Low.below {w0 w W : World} {s : Nat} (h : Low w0 w s) (hg : Below w.heap.size w W) : Low w0 W s := ⟨h.1.trans (hg.mono h.1.size), h.2⟩

/-- What the walks of Next know of the line at p: what literal does, and the row behind. -/
def AtLine (w : World) (s : Nat) (b : List UInt8) (pv : Option Addr) (cv p : Nat) : Prop :=
  (∃ a k e : Nat, Blk w s 49 #[.slice pv b.length cv, .int .i64 a, .int .i64 k, .int .i64 e] ∧ (a : Int) + k = p ∧ a ≤ b.length ∧ k ≤ 65536) ∧ s < w.heap.size ∧ Buf w 0 1 (.slice pv b.length cv) b.length (Lib.byteCells b) ∧ (Value.slice pv b.length cv).ownBlock ≠ some s
theorem Spl.line {w : World} {s p : Nat} {r : Option Nat} {b : List UInt8} (h : Spl w s r b p) : ∃ pv cv, AtLine w s b pv cv p ∧ (Value.slice pv b.length cv).ownBlock = r := by
  obtain ⟨v, a, k, e, h1, h2, h3, h4, h5, h6, h7, h8⟩ := h
  obtain ⟨pv, cv, rfl, _⟩ := h2.bys
  exact ⟨pv, cv, ⟨⟨a, k, e, h1, by omega, h5, h7⟩, h1.lt, h2, by rw [h3]; exact h8⟩, h3⟩
theorem AtLine.spl {w W : World} {s p q : Nat} {r : Option Nat} {b : List UInt8} {pv : Option Addr} {cv a k e : Nat} (h : AtLine w s b pv cv p) (hr : (Value.slice pv b.length cv).ownBlock = r) (hg : w.grownBy W (some s)) (hB : Blk W s 49 #[.slice pv b.length cv, .int .i64 a, .int .i64 k, .int .i64 e]) (hq : a + k = q) (ha : a ≤ b.length) (he : e ≤ b.length) (hk : k ≤ 65536) : Spl W s r b q :=
  ⟨_, a, k, e, hB, h.2.2.1.grown hg (fun k hk => by intro e; injection e with e; subst e; exact h.2.2.2 hk), hr, hq, ha, he, hk, by rw [← hr]; exact h.2.2.2⟩
theorem AtLine.bys {w W : World} {s p : Nat} {b : List UInt8} {pv : Option Addr} {cv : Nat} (h : AtLine w s b pv cv p) (hg : w.grownBy W (some s)) : Bys W W.heap.size pv b ∧ b.length ≤ cv ∧ (pv = none → cv = 0) :=
  Buf.at_once (h.2.2.1.grown hg (fun k hk => by intro e; injection e with e; subst e; exact h.2.2.2 hk))
/-- literal, called by Next. -/
theorem lit_call {w : World} {s p : Nat} {b : List UInt8} {pv : Option Addr} {cv : Nat} (h : AtLine w s b pv cv p) (hbl : b.length ≤ 1048576) (hp : p ≤ b.length) :
    Calls Tryd.prog 23 #[.pointer (some ⟨s, 0, none⟩)] (w.alloc (.cells #[.int .i64 0, .slice none 0 0] 37)) fun x w' => x = .returned (.bool true) ∧ Blk w' s 49 #[.slice pv b.length cv, .int .i64 p, .int .i64 0, .int .i64 p] ∧ w.grownBy w' (some s) ∧ Blk w' w.heap.size 37 #[.int .i64 0, .slice none 0 0] := by
  obtain ⟨⟨a, k, e, h1, h2, h3, h4⟩, h5, -⟩ := h
  have H := literal_yes s pv b.length cv a k e _ (h1.past (.cells #[.int .i64 0, .slice none 0 0] 37)) hbl h3 h4 (by omega)
  rw [h2] at H
  refine H.mono ?_
  rintro x w' ⟨rfl, h6, h7⟩
  exact ⟨rfl, h6, grown_trans (grown_alloc (World.grownBy.refl w _) _) h7, (frm_zero w).grown h7 (fun e => by injection e with e; omega)⟩

set_option maxRecDepth 100000 in
set_option maxHeartbeats 1600000 in
theorem next_line0 (w0 : World) (s : Nat) (r : Option Nat) (b : List UInt8) (p : Nat) (w : World) (h : Spl w s r b p) (hbl : b.length ≤ 1048576) (hp : p ≤ b.length) (he : endL b p = none) (hL : Low w0 w s) :
    Calls Tryd.prog 15 #[.pointer (some ⟨s, 0, none⟩)] w (NxPost w s r b .wait p) := by
  obtain ⟨pv, cv, hA, hr⟩ := h.line
  have HA := Lib.hid hA
  have hfe : findE (b.drop p) = none := by
    unfold endL at he
    rwa [Option.map_eq_none_iff] at he
  have HC := Lib.hid (lit_call hA hbl hp)
  have HL := Lib.hid (fun (W : World) (hB : Blk W s 49 #[.slice pv b.length cv, .int .i64 p, .int .i64 0, .int .i64 p]) (hW : w.grownBy W (some s)) => by
    obtain ⟨k1, k2, k3⟩ := hA.bys hW
    have := line_any s pv b cv p 0 p W hB k1 hbl hp k2 k3 (hL.stdM hW)
    rw [hfe] at this
    exact this)
  have hsl : s < w.heap.size := hA.2.1
  have HR := Lib.hid (And.intro hr hp)
  clear hA hr hfe he h hL hbl hp
  go_enter Tryd.func15, Tryd.ntmps15
  go_wp2_with fail
  refine HC.out.mono ?_
  rintro x w1 ⟨rfl, hB, hg, hz⟩
  have HH := Lib.hid (And.intro hB (And.intro hg hz))
  clear hB hg hz
  go_wp2_with fail
  refine (HL.out _ HH.out.1 HH.out.2.1).mono ?_
  rintro x w2 ⟨rfl, e2, he2, hB2, hg2⟩
  have hz2 := HH.out.2.2.grown hg2 (fun e => by injection e with e; omega)
  obtain ⟨q0, q1, q2, q3⟩ := blk2 hz2
  have HH2 := Lib.hid (And.intro hB2 (And.intro hg2 (And.intro hz2 he2)))
  clear hB2 hg2 hz2 he2
  go_wp2_with fail
  obtain ⟨hB2, hg2, hz2, he2⟩ := HH2.out
  obtain ⟨p0, p1, -, -⟩ := blk2 (show Blk _ _ _ #[.int .i64 0, .slice none 0 0] from (hz2.put 0 (.int .i64 0)).put 1 (.slice none 0 0))
  have hne : s ≠ w.heap.size := by omega
  have hg3 := grown_new (grown_new (grown_trans HH.out.2.1 hg2) (Nat.le_refl _) 0 (.int .i64 0)) (Nat.le_refl _) 1 (.slice none 0 0)
  refine bodyPost_ret (v := .tuple #[.agg #[.int .i64 0, .slice none 0 0], .bool false]) (by simp [results, Tryd.results15, go_sem, p0, p1]) rfl ⟨hg3, rfl, HA.out.spl HR.out.1 hg3 ((hB2.far (p := ⟨w.heap.size, 0, none⟩) hne _).far (p := ⟨w.heap.size, 1, none⟩) hne _) rfl HR.out.2 he2 (by omega)⟩
end Go.Proofs.YtllboenffepcgaaDoor
