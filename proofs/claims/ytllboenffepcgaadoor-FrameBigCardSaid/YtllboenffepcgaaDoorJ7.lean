/- The walk of Next where the line is there. · The walk of the reference's Command. · A range over a function whose iterator keeps a state of its own in memory; the body ends normally. · A range over a splitter's frames: the laws; the walk of the iterator. -/
import Derived.Test.YtllboenffepcgaaDoorJ6
import Derived.Deep.DeepCutAuto
import Derived.Test.YtllboenffepcgaaDoorJ4
import Derived.Test.YtllboenffepcgaaDoorLawForms
import Derived.IntWalk
import Derived.RangeFuncNested
import Derived.RangeFuncBound
import Derived.RangeFuncCalls
import Derived.RangeFuncLeaves
import Derived.OwnWalkIn
import Derived.Deep.RegionHeld3
import Derived.Stop.RegionWithIn
import Derived.TacticsInMore
import Derived.LoopNIn
import Derived.LoopIn
import Derived.Shelf.Abstract
import Derived.Shelf.RegionOpen
set_option linter.unusedVariables false
set_option linter.unusedSimpArgs false
namespace Go.Proofs.YtllboenffepcgaaDoor
open Go.RowKit

/-- line, called by Next. -/
theorem line_call {w0 w : World} {s p E : Nat} {b : List UInt8} {pv : Option Addr} {cv : Nat} (h : AtLine w s b pv cv p) (hbl : b.length ≤ 1048576) (hp : p ≤ b.length) (he : endL b p = some E) (hL : Low w0 w s) (W : World) (hB : Blk W s 49 #[.slice pv b.length cv, .int .i64 p, .int .i64 0, .int .i64 p]) (hW : w.grownBy W (some s)) :
    Calls Tryd.prog 24 #[.pointer (some ⟨s, 0, none⟩)] W fun x w' => x = .returned (.tuple #[.int .i64 E, .bool true]) ∧ Below W.heap.size W w' := by
  obtain ⟨k1, k2, k3⟩ := h.bys hW
  have H := line_any s pv b cv p 0 p W hB k1 hbl hp k2 k3 (hL.stdM hW)
  unfold endL at he
  cases hf : findE (b.drop p) with
  | none => rw [hf] at he; cases he
  | some i =>
    rw [hf] at he H
    simp only [Option.map_some, Option.some.injEq] at he
    refine H.mono ?_
    rintro x w' ⟨rfl, hb⟩
    exact ⟨by rw [show (E : Int) = (p : Int) + i by omega], hb⟩
/-- What is known where the line ends at E: the row, the text. -/
def Ends (w : World) (s : Nat) (b : List UInt8) (av : Addr) (cv p E : Nat) : Prop := AtLine w s b (some av) cv p ∧ p ≤ E ∧ E + 2 ≤ b.length ∧ b.length ≤ cv ∧ b.length ≤ 1048576
theorem ends_mk {w : World} {s p E : Nat} {b : List UInt8} {pv : Option Addr} {cv : Nat} (h : AtLine w s b pv cv p) (he : endL b p = some E) (hbl : b.length ≤ 1048576) : ∃ av, pv = some av ∧ Ends w s b av cv p E := by
  have h1 := endL_some he
  obtain ⟨_, k2, k3⟩ := h.bys (World.grownBy.refl w _)
  cases pv with
  | none => have := k3 rfl; omega
  | some av => exact ⟨av, rfl, h, h1.1, h1.2.1, k2, hbl⟩
theorem Ends.text {w W : World} {s p E : Nat} {b : List UInt8} {av : Addr} {cv : Nat} (h : Ends w s b av cv p E) (hW : w.grownBy W (some s)) : Bys W W.heap.size (some (av.add p)) ((b.take E).drop p) := ((h.1.bys hW).1.upto E).from p
theorem Ends.len {w : World} {s p E : Nat} {b : List UInt8} {av : Addr} {cv : Nat} (h : Ends w s b av cv p E) : ((b.take E).drop p).length = E - p := by
  have := h.2.2.1
  rw [List.length_drop, List.length_take, Nat.min_eq_left (by omega)]
/-- Announced, called by Next. -/
theorem ann_call {w0 w : World} {s p E : Nat} {b : List UInt8} {av : Addr} {cv tl : Nat} {o : Option Nat} (h : Ends w s b av cv p E) (ht : E - p = tl) (ho : annP ((b.take E).drop p) = o) (hL : Low w0 w s) (W : World) (hW : w.grownBy W (some s)) :
    Calls Tryd.prog 25 #[.slice (some (av.add p)) tl (cv - p)] W fun x w' => x = .returned (.tuple #[.int .i64 ((o.getD 0 : Nat) : Int), .bool o.isSome]) ∧ Below W.heap.size W w' := by
  have hl := h.len
  obtain ⟨_, h1, h2, h3, h4⟩ := id h
  have H := announced_any (some (av.add p)) (cv - p) ((b.take E).drop p) W (h.text hW) (by omega) (by omega) (hL.std hW)
  rw [hl, ho, ht] at H
  exact H
/-- finish, called by Next. -/
theorem fin_call {w : World} {s p E : Nat} {b : List UInt8} {av ad : Addr} {cv cd n dl : Nat} {kind : Int} {d : List UInt8} (h : Ends w s b av cv p E) (hd : ∀ W, w.grownBy W (some s) → Bys W W.heap.size (some ad) d) (hdl : d.length = dl) (hdm : dl ≤ 1048576) (hn : E + 2 = n) (W : World) (hB : Blk W s 49 #[.slice (some av) b.length cv, .int .i64 p, .int .i64 0, .int .i64 p]) (hW : w.grownBy W (some s)) :
    Calls Tryd.prog 26 #[.pointer (some ⟨s, 0, none⟩), .int .i64 kind, .slice (some ad) dl cd, .int .i64 ((E : Int) + 2)] W (FinPost W s kind d (b.drop n)) := by
  subst hn hdl
  obtain ⟨h0, h1, h2, h3, h4⟩ := id h
  have H := finish_any s av ad b d cv cd (E + 2) p 0 p kind W hB (h0.bys hW).1 (hd W hW) h2 h3 h4 hdm
  rw [show (((E + 2 : Nat)) : Int) = (E : Int) + 2 by omega] at H
  exact H
/-- From what finish hands back to what Next does. -/
theorem nx_done {w W W' : World} {s n p : Nat} {r r' : Option Nat} {b d : List UInt8} {kind : Int} {p1 : Option Addr} {c1 : Nat} (hW : w.grownBy W (some s)) (hz : Blk W w.heap.size 37 #[.int .i64 0, .slice none 0 0]) (hs : s < w.heap.size)
    (h1 : BysL W' (fun i => W.heap.size ≤ i ∧ r' ≠ some i) p1 d) (h2 : Spl W' s r' (b.drop n) 0) (h3 : ∀ g, r' = some g → W.heap.size ≤ g) (h4 : W.grownBy W' (some s)) :
    NxPost w s r b (.done ⟨kind, d⟩ n) p (.returned (.tuple #[.agg #[.int .i64 kind, .slice p1 d.length c1], .bool true])) ((W'.setCell ⟨w.heap.size, 0, none⟩ (.int .i64 kind)).setCell ⟨w.heap.size, 1, none⟩ (.slice p1 d.length c1)) := by
  have hlt := hz.lt
  refine ⟨grown_new (grown_new (grown_trans hW h4) (Nat.le_refl _) _ _) (Nat.le_refl _) _ _, p1, c1, r', rfl, h1.keep (((KeptOn.refl _ _).put (by rintro ⟨h, _⟩; omega) _ _).put (by rintro ⟨h, _⟩; omega) _ _) (fun i _ h => ⟨by have := h.1; omega, h.2⟩), (h2.grown (g := w.heap.size) (grown_put (grown_put (World.grownBy.refl _ _) _ _) _ _) (by omega) (fun e => by have := h3 _ e; omega)), fun g e => by have := h3 g e; omega⟩

set_option maxRecDepth 100000 in
set_option maxHeartbeats 1600000 in
theorem next_long (w0 : World) (s : Nat) (r : Option Nat) (b : List UInt8) (p E : Nat) (w : World) (h : Spl w s r b p) (hbl : b.length ≤ 1048576) (he : endL b p = some E) (hL : Low w0 w s) (hl : 8192 < ((b.take E).drop p).length) (o : Option Nat) (ho : annP ((b.take E).drop p) = o) :
    Calls Tryd.prog 15 #[.pointer (some ⟨s, 0, none⟩)] w (NxPost w s r b (.done ⟨3, ((b.take E).drop p).take 8192⟩ (E + 2)) p) := by
  obtain ⟨pv, cv, hA, hr⟩ := h.line
  obtain ⟨av, rfl, hE⟩ := ends_mk hA he hbl
  obtain ⟨-, h1, h2, h3, h4⟩ := id hE
  have hsl : s < w.heap.size := hA.2.1
  obtain ⟨tl, ht⟩ : ∃ tl, E - p = tl := ⟨_, rfl⟩
  have hlen := hE.len
  have HC := Lib.hid (lit_call hA hbl (by omega))
  have HL := Lib.hid (line_call hA hbl (by omega) he hL)
  have HN := Lib.hid (fun W hW => ann_call hE ht ho hL W hW)
  have HR := Lib.hid (And.intro hr (And.intro hE hA))
  have hcp : ¬ cv = p := by omega
  have e1 : (p : Int) ≤ E := by omega
  have e2 : (E : Int) ≤ cv := by omega
  have e3 : (E : Int) + 2 ≤ 1048576 := by omega
  have htl : (tl : Int) ≤ 1048576 := by omega
  have hl1 : (8192 : Int) < tl := by omega
  have HF := Lib.hid (fun W hB hW => fin_call (kind := 3) (d := ((b.take E).drop p).take 8192) (cd := cv - p) (dl := 8192) hE (fun W hW => (hE.text hW).upto 8192) (by rw [List.length_take]; omega) (by decide) rfl W hB hW)
  generalize ((b.take E).drop p).take 8192 = d at *
  clear hl
  clear hA hr he h hL hlen hE h1 h2 h3 h4 hbl
  go_enter Tryd.func15, Tryd.ntmps15
  go_wp2_with fail
  refine HC.out.mono ?_
  rintro x w1 ⟨rfl, hB, hg, hz⟩
  have HH := Lib.hid (And.intro hB (And.intro hg hz))
  clear hB hg hz
  go_wp2_with fail
  refine (HL.out _ HH.out.1 HH.out.2.1).mono ?_
  rintro x w2 ⟨rfl, hb2⟩
  have hB2 := HH.out.1.below hb2 HH.out.1.lt
  have hz2 := HH.out.2.2.below hb2 HH.out.2.2.lt
  have hg2 := grown_trans HH.out.2.1 (grown_of_below hb2 _)
  have hsz : w.heap.size < w2.heap.size := hz2.lt
  obtain ⟨⟨d0, d1, d2, d3⟩, -⟩ := blk4 hB2
  have HH2 := Lib.hid (And.intro hB2 (And.intro hg2 hz2))
  clear hB2 hg2 hz2 hb2
  go_wp2_with fail
  go_quiet (fail)
  go_wp2_with fail
  refine (HN.out _ (grown_drewN HH2.out.2.1 nq)).mono ?_
  rintro x w3 ⟨rfl, hb3⟩
  have hB3 := Blk.below (Blk.drewn HH2.out.1 nq) hb3 HH2.out.1.lt
  have hz3 := Blk.below (Blk.drewn HH2.out.2.2 nq) hb3 HH2.out.2.2.lt
  have hg3 := grown_trans (grown_drewN HH2.out.2.1 nq) (grown_of_below hb3 _)
  have hsz3 : w.heap.size < w3.heap.size := hz3.lt
  have hsl3 : s < w3.heap.size := by omega
  obtain ⟨⟨f0, f1, f2, f3⟩, ⟨g0, g1, g2, g3⟩⟩ := blk4 hB3
  have HH3 := Lib.hid (And.intro hB3 (And.intro hg3 hz3))
  clear hB3 hg3 hz3 hb3 d0 d1 d2 d3
  go_wp2_with fail
  refine (HF.out _ HH3.out.1 HH3.out.2.1).mono ?_
  rintro x w4 ⟨p1, c1, r', rfl, k1, k2, k3, k4⟩
  have hz4 := HH3.out.2.2.grown k4 (fun e => by injection e with e; omega)
  obtain ⟨q0, q1, q2, q3⟩ := blk2 hz4
  have HK := Lib.hid (And.intro hz4 (And.intro k1 (And.intro k2 (And.intro k3 k4))))
  clear hz4 k1 k2 k3 k4
  go_wp2_with fail
  obtain ⟨hz4, k1, k2, k3, k4⟩ := HK.out
  obtain ⟨p0, p1', -, -⟩ := blk2 (show Blk _ _ _ #[.int .i64 3, .slice p1 d.length c1] from (hz4.put 0 (.int .i64 3)).put 1 (.slice p1 d.length c1))
  exact bodyPost_ret (v := .tuple #[.agg #[.int .i64 3, .slice p1 d.length c1], .bool true]) (by simp [results, Tryd.results15, go_sem, p0, p1']) rfl (nx_done HH3.out.2.1 HH3.out.2.2 hsl k1 k2 k3 k4)

set_option maxRecDepth 100000 in
set_option maxHeartbeats 1600000 in
theorem next_cmd (w0 : World) (s : Nat) (r : Option Nat) (b : List UInt8) (p E : Nat) (w : World) (h : Spl w s r b p) (hbl : b.length ≤ 1048576) (he : endL b p = some E) (hL : Low w0 w s) (hl : ¬ 8192 < ((b.take E).drop p).length) (ho : annP ((b.take E).drop p) = none) :
    Calls Tryd.prog 15 #[.pointer (some ⟨s, 0, none⟩)] w (NxPost w s r b (.done ⟨1, b.take E⟩ (E + 2)) p) := by
  obtain ⟨pv, cv, hA, hr⟩ := h.line
  obtain ⟨av, rfl, hE⟩ := ends_mk hA he hbl
  obtain ⟨-, h1, h2, h3, h4⟩ := id hE
  have hsl : s < w.heap.size := hA.2.1
  obtain ⟨tl, ht⟩ : ∃ tl, E - p = tl := ⟨_, rfl⟩
  have hlen := hE.len
  have HC := Lib.hid (lit_call hA hbl (by omega))
  have HL := Lib.hid (line_call hA hbl (by omega) he hL)
  have HN := Lib.hid (fun W hW => ann_call hE ht ho hL W hW)
  have HR := Lib.hid (And.intro hr (And.intro hE hA))
  have hcp : ¬ cv = p := by omega
  have e1 : (p : Int) ≤ E := by omega
  have e2 : (E : Int) ≤ cv := by omega
  have e3 : (E : Int) + 2 ≤ 1048576 := by omega
  have htl : (tl : Int) ≤ 1048576 := by omega
  have hl1 : decide ((8192 : Int) < tl) = false := decide_eq_false (by omega)
  have hl2 : decide (8192 < tl) = false := decide_eq_false (by omega)
  have HF := Lib.hid (fun W hB hW => fin_call (kind := 1) (d := b.take E) (cd := cv) (dl := E) hE (fun W hW => (hA.bys hW).1.upto E) (by rw [List.length_take]; omega) (by omega) rfl W hB hW)
  generalize hd : b.take E = d at *
  clear hl hd ho
  clear hA hr he h hL hlen hE h1 h2 h3 h4 hbl
  go_enter Tryd.func15, Tryd.ntmps15
  go_wp2_with fail
  refine HC.out.mono ?_
  rintro x w1 ⟨rfl, hB, hg, hz⟩
  have HH := Lib.hid (And.intro hB (And.intro hg hz))
  clear hB hg hz
  go_wp2_with fail
  refine (HL.out _ HH.out.1 HH.out.2.1).mono ?_
  rintro x w2 ⟨rfl, hb2⟩
  have hB2 := HH.out.1.below hb2 HH.out.1.lt
  have hz2 := HH.out.2.2.below hb2 HH.out.2.2.lt
  have hg2 := grown_trans HH.out.2.1 (grown_of_below hb2 _)
  have hsz : w.heap.size < w2.heap.size := hz2.lt
  obtain ⟨⟨d0, d1, d2, d3⟩, -⟩ := blk4 hB2
  have HH2 := Lib.hid (And.intro hB2 (And.intro hg2 hz2))
  clear hB2 hg2 hz2 hb2
  go_wp2_with fail
  go_quiet (fail)
  go_wp2_with fail
  refine (HN.out _ (grown_drewN HH2.out.2.1 nq)).mono ?_
  rintro x w3 ⟨rfl, hb3⟩
  have hB3 := Blk.below (Blk.drewn HH2.out.1 nq) hb3 HH2.out.1.lt
  have hz3 := Blk.below (Blk.drewn HH2.out.2.2 nq) hb3 HH2.out.2.2.lt
  have hg3 := grown_trans (grown_drewN HH2.out.2.1 nq) (grown_of_below hb3 _)
  have hsz3 : w.heap.size < w3.heap.size := hz3.lt
  have hsl3 : s < w3.heap.size := by omega
  obtain ⟨⟨f0, f1, f2, f3⟩, ⟨g0, g1, g2, g3⟩⟩ := blk4 hB3
  have HH3 := Lib.hid (And.intro hB3 (And.intro hg3 hz3))
  clear hB3 hg3 hz3 hb3 d0 d1 d2 d3
  go_wp2_with fail
  refine (HF.out _ HH3.out.1 HH3.out.2.1).mono ?_
  rintro x w4 ⟨p1, c1, r', rfl, k1, k2, k3, k4⟩
  have hz4 := HH3.out.2.2.grown k4 (fun e => by injection e with e; omega)
  obtain ⟨q0, q1, q2, q3⟩ := blk2 hz4
  have HK := Lib.hid (And.intro hz4 (And.intro k1 (And.intro k2 (And.intro k3 k4))))
  clear hz4 k1 k2 k3 k4
  go_wp2_with fail
  obtain ⟨hz4, k1, k2, k3, k4⟩ := HK.out
  obtain ⟨p0, p1', -, -⟩ := blk2 (show Blk _ _ _ #[.int .i64 1, .slice p1 d.length c1] from (hz4.put 0 (.int .i64 1)).put 1 (.slice p1 d.length c1))
  exact bodyPost_ret (v := .tuple #[.agg #[.int .i64 1, .slice p1 d.length c1], .bool true]) (by simp [results, Tryd.results15, go_sem, p0, p1']) rfl (nx_done HH3.out.2.1 HH3.out.2.2 hsl k1 k2 k3 k4)

set_option maxRecDepth 100000 in
set_option maxHeartbeats 1600000 in
theorem next_big (w0 : World) (s : Nat) (r : Option Nat) (b : List UInt8) (p E : Nat) (w : World) (h : Spl w s r b p) (hbl : b.length ≤ 1048576) (he : endL b p = some E) (hL : Low w0 w s) (n : Nat) (hl : ¬ 8192 < ((b.take E).drop p).length) (ho : annP ((b.take E).drop p) = some n) (hn : 65536 < n) :
    Calls Tryd.prog 15 #[.pointer (some ⟨s, 0, none⟩)] w (NxPost w s r b (.done ⟨4, b.take E⟩ (E + 2)) p) := by
  obtain ⟨pv, cv, hA, hr⟩ := h.line
  obtain ⟨av, rfl, hE⟩ := ends_mk hA he hbl
  obtain ⟨-, h1, h2, h3, h4⟩ := id hE
  have hsl : s < w.heap.size := hA.2.1
  obtain ⟨tl, ht⟩ : ∃ tl, E - p = tl := ⟨_, rfl⟩
  have hlen := hE.len
  have HC := Lib.hid (lit_call hA hbl (by omega))
  have HL := Lib.hid (line_call hA hbl (by omega) he hL)
  have HN := Lib.hid (fun W hW => ann_call hE ht ho hL W hW)
  have HR := Lib.hid (And.intro hr (And.intro hE hA))
  have hcp : ¬ cv = p := by omega
  have e1 : (p : Int) ≤ E := by omega
  have e2 : (E : Int) ≤ cv := by omega
  have e3 : (E : Int) + 2 ≤ 1048576 := by omega
  have htl : (tl : Int) ≤ 1048576 := by omega
  have hl1 : decide ((8192 : Int) < tl) = false := decide_eq_false (by omega)
  have hl2 : decide (8192 < tl) = false := decide_eq_false (by omega)
  have HF := Lib.hid (fun W hB hW => fin_call (kind := 4) (d := b.take E) (cd := cv) (dl := E) hE (fun W hW => (hA.bys hW).1.upto E) (by rw [List.length_take]; omega) (by omega) rfl W hB hW)
  generalize hd : b.take E = d at *
  clear hl hd ho
  have hn1 : (65536 : Int) < n := by omega
  clear hn
  clear hA hr he h hL hlen hE h1 h2 h3 h4 hbl
  go_enter Tryd.func15, Tryd.ntmps15
  go_wp2_with fail
  refine HC.out.mono ?_
  rintro x w1 ⟨rfl, hB, hg, hz⟩
  have HH := Lib.hid (And.intro hB (And.intro hg hz))
  clear hB hg hz
  go_wp2_with fail
  refine (HL.out _ HH.out.1 HH.out.2.1).mono ?_
  rintro x w2 ⟨rfl, hb2⟩
  have hB2 := HH.out.1.below hb2 HH.out.1.lt
  have hz2 := HH.out.2.2.below hb2 HH.out.2.2.lt
  have hg2 := grown_trans HH.out.2.1 (grown_of_below hb2 _)
  have hsz : w.heap.size < w2.heap.size := hz2.lt
  obtain ⟨⟨d0, d1, d2, d3⟩, -⟩ := blk4 hB2
  have HH2 := Lib.hid (And.intro hB2 (And.intro hg2 hz2))
  clear hB2 hg2 hz2 hb2
  go_wp2_with fail
  go_quiet (fail)
  go_wp2_with fail
  refine (HN.out _ (grown_drewN HH2.out.2.1 nq)).mono ?_
  rintro x w3 ⟨rfl, hb3⟩
  have hB3 := Blk.below (Blk.drewn HH2.out.1 nq) hb3 HH2.out.1.lt
  have hz3 := Blk.below (Blk.drewn HH2.out.2.2 nq) hb3 HH2.out.2.2.lt
  have hg3 := grown_trans (grown_drewN HH2.out.2.1 nq) (grown_of_below hb3 _)
  have hsz3 : w.heap.size < w3.heap.size := hz3.lt
  have hsl3 : s < w3.heap.size := by omega
  obtain ⟨⟨f0, f1, f2, f3⟩, ⟨g0, g1, g2, g3⟩⟩ := blk4 hB3
  have HH3 := Lib.hid (And.intro hB3 (And.intro hg3 hz3))
  clear hB3 hg3 hz3 hb3 d0 d1 d2 d3
  go_wp2_with fail
  refine (HF.out _ HH3.out.1 HH3.out.2.1).mono ?_
  rintro x w4 ⟨p1, c1, r', rfl, k1, k2, k3, k4⟩
  have hz4 := HH3.out.2.2.grown k4 (fun e => by injection e with e; omega)
  obtain ⟨q0, q1, q2, q3⟩ := blk2 hz4
  have HK := Lib.hid (And.intro hz4 (And.intro k1 (And.intro k2 (And.intro k3 k4))))
  clear hz4 k1 k2 k3 k4
  go_wp2_with fail
  obtain ⟨hz4, k1, k2, k3, k4⟩ := HK.out
  obtain ⟨p0, p1', -, -⟩ := blk2 (show Blk _ _ _ #[.int .i64 4, .slice p1 d.length c1] from (hz4.put 0 (.int .i64 4)).put 1 (.slice p1 d.length c1))
  exact bodyPost_ret (v := .tuple #[.agg #[.int .i64 4, .slice p1 d.length c1], .bool true]) (by simp [results, Tryd.results15, go_sem, p0, p1']) rfl (nx_done HH3.out.2.1 HH3.out.2.2 hsl k1 k2 k3 k4)

set_option maxRecDepth 100000 in
set_option maxHeartbeats 1600000 in
theorem next_lit (w0 : World) (s : Nat) (r : Option Nat) (b : List UInt8) (p E : Nat) (w : World) (h : Spl w s r b p) (hbl : b.length ≤ 1048576) (he : endL b p = some E) (hL : Low w0 w s) (n : Nat) (hl : ¬ 8192 < ((b.take E).drop p).length) (ho : annP ((b.take E).drop p) = some n) (hn : ¬ 65536 < n) :
    Calls Tryd.prog 15 #[.pointer (some ⟨s, 0, none⟩)] w (NxPost w s r b (.ready (E + 2) n) p) := by
  obtain ⟨pv, cv, hA, hr⟩ := h.line
  obtain ⟨av, rfl, hE⟩ := ends_mk hA he hbl
  obtain ⟨-, h1, h2, h3, h4⟩ := id hE
  have hsl : s < w.heap.size := hA.2.1
  obtain ⟨tl, ht⟩ : ∃ tl, E - p = tl := ⟨_, rfl⟩
  have hlen := hE.len
  have HC := Lib.hid (lit_call hA hbl (by omega))
  have HL := Lib.hid (line_call hA hbl (by omega) he hL)
  have HN := Lib.hid (fun W hW => ann_call hE ht ho hL W hW)
  have HR := Lib.hid (And.intro hr (And.intro hE hA))
  have hcp : ¬ cv = p := by omega
  have e1 : (p : Int) ≤ E := by omega
  have e2 : (E : Int) ≤ cv := by omega
  have e3 : (E : Int) + 2 ≤ 1048576 := by omega
  have htl : (tl : Int) ≤ 1048576 := by omega
  have hl1 : decide ((8192 : Int) < tl) = false := decide_eq_false (by omega)
  have hl2 : decide (8192 < tl) = false := decide_eq_false (by omega)
  obtain ⟨nv, hnv⟩ : ∃ nv : Int, (n : Int) = nv := ⟨_, rfl⟩
  have hn1 : decide ((65536 : Int) < nv) = false := decide_eq_false (by omega)
  replace HN := Lib.hid (fun W hW => (show Calls Tryd.prog 25 #[.slice (some (av.add p)) tl (cv - p)] W fun x w' => x = .returned (.tuple #[.int .i64 nv, .bool true]) ∧ Below W.heap.size W w' from by rw [← hnv]; exact HN.out W hW))
  have HV := Lib.hid (And.intro hnv hn)
  clear hnv
  clear hl ho hn
  clear hA hr he h hL hlen hE h1 h2 h3 h4 hbl
  go_enter Tryd.func15, Tryd.ntmps15
  go_wp2_with fail
  refine HC.out.mono ?_
  rintro x w1 ⟨rfl, hB, hg, hz⟩
  have HH := Lib.hid (And.intro hB (And.intro hg hz))
  clear hB hg hz
  go_wp2_with fail
  refine (HL.out _ HH.out.1 HH.out.2.1).mono ?_
  rintro x w2 ⟨rfl, hb2⟩
  have hB2 := HH.out.1.below hb2 HH.out.1.lt
  have hz2 := HH.out.2.2.below hb2 HH.out.2.2.lt
  have hg2 := grown_trans HH.out.2.1 (grown_of_below hb2 _)
  have hsz : w.heap.size < w2.heap.size := hz2.lt
  obtain ⟨⟨d0, d1, d2, d3⟩, -⟩ := blk4 hB2
  have HH2 := Lib.hid (And.intro hB2 (And.intro hg2 hz2))
  clear hB2 hg2 hz2 hb2
  go_wp2_with fail
  go_quiet (fail)
  go_wp2_with fail
  refine (HN.out _ (grown_drewN HH2.out.2.1 nq)).mono ?_
  rintro x w3 ⟨rfl, hb3⟩
  have hB3 := Blk.below (Blk.drewn HH2.out.1 nq) hb3 HH2.out.1.lt
  have hz3 := Blk.below (Blk.drewn HH2.out.2.2 nq) hb3 HH2.out.2.2.lt
  have hg3 := grown_trans (grown_drewN HH2.out.2.1 nq) (grown_of_below hb3 _)
  have hsz3 : w.heap.size < w3.heap.size := hz3.lt
  have hsl3 : s < w3.heap.size := by omega
  obtain ⟨⟨f0, f1, f2, f3⟩, ⟨g0, g1, g2, g3⟩⟩ := blk4 hB3
  have HH3 := Lib.hid (And.intro hB3 (And.intro hg3 hz3))
  clear hB3 hg3 hz3 hb3 d0 d1 d2 d3
  obtain ⟨q0, q1, q2, q3⟩ := blk2 HH3.out.2.2
  go_wp2_with fail
  obtain ⟨hB3, hg3, hz3⟩ := HH3.out
  have hne : s ≠ w.heap.size := by omega
  obtain ⟨p0, p1', -, -⟩ := blk2 (show Blk _ _ _ #[.int .i64 2, .slice none 0 0] from ((((hz3.far (p := ⟨s, 1, none⟩) hne.symm (.int .i64 ((E : Int) + 2))).far (p := ⟨s, 2, none⟩) hne.symm (.int .i64 nv)).put 0 (.int .i64 2)).put 1 (.slice none 0 0)))
  have hp := (((hB3.put 1 (.int .i64 ((E : Int) + 2))).put 2 (.int .i64 nv)).far (p := ⟨w.heap.size, 0, none⟩) hne (.int .i64 2)).far (p := ⟨w.heap.size, 1, none⟩) hne (.slice none 0 0)
  simp only [List.setIfInBounds_toArray, List.set_cons_zero, List.set_cons_succ] at hp
  have hg4 := grown_new (grown_new (grown_put (grown_put hg3 1 (.int .i64 ((E : Int) + 2))) 2 (.int .i64 nv)) (Nat.le_refl _) 0 (.int .i64 2)) (Nat.le_refl _) 1 (.slice none 0 0)
  obtain ⟨hr, hE, hA⟩ := HR.out
  have hq := HV.out
  rw [show ((E : Int) + 2) = ((E + 2 : Nat) : Int) by omega, ← hq.1] at hp hg4
  obtain ⟨-, h1, h2, h3, h4⟩ := id hE
  refine bodyPost_ret (v := .tuple #[.agg #[.int .i64 2, .slice none 0 0], .bool true]) (by simp [results, Tryd.results15, go_sem, p0, p1']) rfl ?_
  rw [show ((E : Int) + 2) = ((E + 2 : Nat) : Int) by omega, ← hq.1]
  exact ⟨hg4, rfl, hA.spl hr hg4 hp rfl h2 (by omega) (by omega)⟩

theorem next_any (w0 : World) (s : Nat) (r : Option Nat) (b : List UInt8) (p : Nat) (w : World) (h : Spl w s r b p) (hbl : b.length ≤ 1048576) (hL : Low w0 w s) :
    Calls Tryd.prog 15 #[.pointer (some ⟨s, 0, none⟩)] w (NxPost w s r b (stepF b p) p) := by
  by_cases hp : b.length < p
  · rw [stepF_short hp]; exact next_short s r b p w h hbl hp
  · cases he : endL b p with
    | none => rw [stepF_none he]; exact next_line0 w0 s r b p w h hbl (by omega) he hL
    | some E =>
      by_cases hl : 8192 < ((b.take E).drop p).length
      · rw [stepF_long he hl]; exact next_long w0 s r b p E w h hbl he hL hl _ rfl
      · cases ha : annP ((b.take E).drop p) with
        | none => rw [stepF_cmd he hl ha]; exact next_cmd w0 s r b p E w h hbl he hL hl ha
        | some n =>
          by_cases hn : 65536 < n
          · rw [stepF_big he hl ha hn]; exact next_big w0 s r b p E w h hbl he hL n hl ha hn
          · rw [stepF_lit he hl ha hn]; exact next_lit w0 s r b p E w h hbl he hL n hl ha hn
end Go.Proofs.YtllboenffepcgaaDoor
namespace Go.Proofs.YtllboenffepcgaaDoor
open Go.RowKit

theorem infoRFrm : (Tryd.prog.info? 51).map (fun i => (i.zero, i.size, i.bytes)) = some (some (.agg #[.int .i64 0, .slice none 0 0]), 2, 32) := by kernel_rfl
/-- 'append(out, Frame{..})'. -/
theorem out_push {W : World} {ok : Nat → Prop} {v : Value} {fs : List Frm} (h : OutF W ok v fs) (f : Frm) (pv : Option Addr) (cv : Nat) (hd : BysL W (fun k => ok k ∧ v.ownBlock ≠ some k) pv f.data) (hnew : ∀ k, W.heap.size ≤ k → ok k) (hc : fs.length ≤ 1048576) :
    ∃ v' w', (Builtin.append_ #[30, 30] 30 #[v, .slice (some ⟨W.heap.size, 0, none⟩) 1 1]).run Tryd.prog (W.alloc (.cells #[.int .i64 f.kind, .slice pv f.data.length cv] 51)) = .ok v' w' ∧ OutF w' ok v' (fs ++ [f]) ∧ (W.alloc (.cells #[.int .i64 f.kind, .slice pv f.data.length cv] 51)).grownBy w' v.ownBlock := by
  obtain ⟨xs, hbuf, hfrs, hov⟩ := h
  have hk := KeptOn.below (ok := fun k => ok k ∧ v.ownBlock ≠ some k) (W := W) ((Below.refl _ _).alloc (Nat.le_refl _) (.cells #[.int .i64 f.kind, .slice pv f.data.length cv] 51))
  obtain ⟨i0, hi, hz0, hz1, hz2⟩ := info_parts infoRFrm
  obtain ⟨v', w', hrun, hb', hgr, hrw⟩ := run_append_buf (P := Tryd.prog) (W.alloc (.cells #[.int .i64 f.kind, .slice pv f.data.length cv] 51)) 30 30 51 i0 _ 2 32 Tryd.underlying30 hi hz0 hz1 hz2 rfl (by decide) 0 v fs.length xs (hbuf.past _) (some ⟨W.heap.size, 0, none⟩) 1 1 [.int .i64 f.kind, .slice pv f.data.length cv]
    ⟨rfl, fun u hu => by simp at hu; rcases hu with rfl | rfl <;> rfl, fun _ => ⟨_, rfl, fun j u hj => by
      rw [Go.WideShapes.add_plain]
      simp only [World.cell?, heap_alloc_new, Nat.zero_add]
      simpa using hj⟩⟩ (by unfold maxLen; omega) (by omega) (Nat.zero_le _)
  exact ⟨v', w', hrun, OutF.push (hfrs.keep hk (fun _ _ h => h)) hov (Frs.one (cv := cv) (hd.keep hk (fun _ _ h => h))) hb' hgr hrw (fun k hk => hnew k (by rw [World.size_alloc] at hk; omega)), hgr⟩
/-- What Command hands back. -/
def CmdPost (w : World) (b : List UInt8) (x : Ending) (w' : World) : Prop :=
  ∃ v fs, OutF w' (fun k => w.heap.size ≤ k) v fs ∧ Below w.heap.size w w' ∧ ((x = .returned (.tuple #[v, .int .i64 (-1)]) ∧ ∃ p, Run b 0 fs b p ∧ stepF b p = .wait) ∨
    ∃ k : Nat, 2 ≤ k ∧ k ≤ b.length ∧ x = .returned (.tuple #[v, .int .i64 k]) ∧ Run b 0 fs (b.drop k) 0)
/-- Between two rounds of Command. -/
def CmdAt (w : World) (b : List UInt8) (v : Value) (p : Nat) (wr : World) : Prop := ∃ fs, OutF wr (fun k => w.heap.size ≤ k) v fs ∧ Below w.heap.size w wr ∧ Run b 0 fs b p
theorem cmd_wait {w wr : World} {b : List UInt8} {v : Value} {p : Nat} (h : CmdAt w b v p wr) (hw : stepF b p = .wait) : CmdPost w b (.returned (.tuple #[v, .int .i64 (-1)])) wr := by
  obtain ⟨fs, h1, h2, h3⟩ := h
  exact ⟨v, fs, h1, h2, .inl ⟨rfl, p, h3, hw⟩⟩
/-- A frame is appended, its bytes copied. -/
theorem cmd_push {w wr w1 : World} {b d : List UInt8} {v : Value} {p : Nat} {p2 : Option Addr} {c2 : Nat} (kd : Int) (h : CmdAt w b v p wr) (hl : b.length ≤ 524288) (hb1 : Below wr.heap.size wr w1) (hd : BysL w1 (fun k => wr.heap.size ≤ k) p2 d) : ∃ v' w2, (Builtin.append_ #[30, 30] 30 #[v, .slice (some ⟨w1.heap.size, 0, none⟩) 1 1]).run Tryd.prog (w1.alloc (.cells #[.int .i64 kd, .slice p2 d.length c2] 51)) = .ok v' w2 ∧ Below w.heap.size w w2 ∧
    ∃ fs, OutF w2 (fun k => w.heap.size ≤ k) v' (fs ++ [⟨kd, d⟩]) ∧ Run b 0 fs b p := by
  obtain ⟨fs, h1, h2, h3⟩ := h
  have hv := h1.own_lt'
  have h1' := h1.keep (KeptOn.below hb1) (fun _ _ h => h)
  have hcnt := h3.count
  have hs := h2.size
  have hs1 := hb1.size
  obtain ⟨v', w2, hrun, hout, hgr⟩ := out_push h1' ⟨kd, d⟩ p2 c2 (hd.keep (KeptOn.refl _ _) (fun i _ h => ⟨by omega, fun e => by have := hv i e; omega⟩)) (fun k hk => by omega) (by omega)
  have hbw := h2.trans (hb1.mono hs)
  have hg := (hbw.alloc hbw.size (.cells #[.int .i64 kd, .slice p2 d.length c2] 51)).grown hgr (by rw [World.size_alloc]; omega) (fun k e => by
    obtain ⟨xs, _, _, ho⟩ := h1
    exact ho k e)
  exact ⟨v', w2, hrun, hg, fs, hout, h3⟩

set_option maxRecDepth 100000 in
set_option maxHeartbeats 3200000 in
theorem command_any (b : List UInt8) (pb : Option Addr) (cb : Nat) (w : World) (hb : Bys w w.heap.size pb b) (hl : b.length ≤ 524288) (hcb : b.length ≤ cb) (hpb : pb = none → cb = 0) :
    Calls Tryd.prog 19 #[.slice pb b.length cb] w (CmdPost w b) := by
  have HB := Lib.hid (And.intro hb (And.intro hl (And.intro hcb hpb)))
  clear hb hl hcb hpb
  generalize hn : b.length = n at *
  have HN := Lib.hid hn
  clear hn
  go_enter Tryd.func19, Tryd.ntmps19
  go_wp2_with fail
  go_loopw [4, 5] (fun v i wr => ∃ p : Nat, i = .int .i64 p ∧ p ≤ 1048576 ∧ CmdAt w b v p wr) (fun _ i _ => n + 1 - (intOf i).toNat)
  case atStart => exact ⟨0, rfl, by omega, [], OutF.nil _ _, Below.refl _ _, .refl _ _⟩
  case round =>
    obtain ⟨p, rfl, hp, hat⟩ := hrel
    have HA := Lib.hid hat
    clear hat
    by_cases hpl : p ≤ n
    · have HE := Lib.hid (rEnd_any pb cb b p wr w.heap.size (HB.out.1.below HA.out.choose_spec.2.1) (by have := HB.out.2.1; have := HN.out; omega) (by omega))
      rw [HN.out] at HE
      have hn0 : (n : Int) ≤ 524288 := by have := HB.out.2.1; omega
      have hp0 : (p : Int) ≤ n := by omega
      cases he : endL b p with
      | none =>
        have HW := Lib.hid (cmd_wait HA.out (stepF_none he))
        rw [he] at HE
        change Hid (Calls _ _ _ _ fun x w' => x = .returned (.int .i64 (-1)) ∧ wr = w') at HE
        clear he
        go_wp2_with fail
        refine HE.out.mono ?_
        rintro x w' ⟨rfl, rfl⟩
        go_wp2_with fail
        go_ret2
        exact HW.out
      | some E =>
        rw [he] at HE
        change Hid (Calls _ _ _ _ fun x w' => x = .returned (.int .i64 (E : Int)) ∧ wr = w') at HE
        obtain ⟨h1, h2, -, -⟩ := endL_some he
        have hlen := HN.out
        obtain ⟨hbb, hl, hcb, hpb⟩ := HB.out
        obtain ⟨av, rfl⟩ : ∃ av, pb = some av := by
          cases pb with
          | none => have := hpb rfl; omega
          | some av => exact ⟨av, rfl⟩
        have hbr : Bys wr wr.heap.size (some av) b := (hbb.below HA.out.choose_spec.2.1).more HA.out.choose_spec.2.1.size
        have htx : Bys wr wr.heap.size (some (av.add p)) ((b.take E).drop p) := (hbr.upto E).from p
        have htl : ((b.take E).drop p).length = E - p := by rw [List.length_drop, List.length_take, Nat.min_eq_left (by omega)]
        obtain ⟨tl, ht⟩ : ∃ tl, E - p = tl := ⟨_, rfl⟩
        have HR := Lib.hid (rAnnounced_any (some (av.add p)) (cb - p) ((b.take E).drop p) wr htx (by omega) (by omega))
        rw [htl, ht, ← ann_eq] at HR
        have hcp : ¬ cb = p := by omega
        have e1 : (p : Int) ≤ E := by omega
        have e2 : (E : Int) ≤ cb := by omega
        have e3 : (E : Int) + 2 ≤ 524288 := by omega
        have e4 : decide ((E : Int) < 0) = false := decide_eq_false (by omega)
        have e5 : (tl : Int) ≤ 524288 := by omega
        have hwz : wr.heap.size ≤ wr.heap.size := Nat.le_refl _
        by_cases hlong : 8192 < ((b.take E).drop p).length
        · obtain ⟨p2, c2, w1, hr1, hc2, hbuf1, hb1⟩ := own_copy wr (some (av.add p)) (cb - p) (((b.take E).drop p).take 8192) (htx.upto 8192) (by rw [List.length_take]; omega)
          obtain ⟨v', w2, hr2, hb2, fs, hout, hrun⟩ := cmd_push (c2 := c2) 3 HA.out (by omega) hb1 (BysL.of_buf hbuf1)
          have HP : Hid (CmdPost w b (.returned (.tuple #[v', .int .i64 ((E : Int) + 2)])) w2) := Lib.hid ⟨v', _, hout, hb2, .inr ⟨E + 2, by omega, by omega, by rw [show ((E + 2 : Nat) : Int) = (E : Int) + 2 by omega], hrun.trans (Run.one_done (stepF_long he hlong))⟩⟩
          have hdl : (((b.take E).drop p).take 8192).length = 8192 := by rw [List.length_take]; omega
          rw [hdl] at hr1 hr2
          have HR1 := Lib.hid hr1
          have HR2 := Lib.hid hr2
          have t1 : (8192 : Int) < tl := by omega
          have HE2 := HE
          clear he HE2 hbr htx htl hlen hbb hl hcb hpb hr1 hr2 hc2 hbuf1 hb1 hb2 hout hrun hlong hdl h1 h2
          go_wp2_with fail
          refine HE.out.mono ?_
          rintro x w' ⟨rfl, rfl⟩
          go_wp2_with (first | (at_builtin; refine wpList_append_run _ rfl (.tmp 28) (.tmp 30) _ _ rfl _ _ rfl rfl _ _ HR1.out ?_) | (at_builtin; refine wpList_append_run _ rfl (.tmp 27) (.tmp 33) _ _ rfl _ _ rfl rfl _ _ HR2.out ?_))
          go_ret2
          exact HP.out
        · cases ha : annP ((b.take E).drop p) with
          | none =>
            obtain ⟨p2, c2, w1, hr1, hc2, hbuf1, hb1⟩ := own_copy wr (some av) cb (b.take E) (hbr.upto E) (by rw [List.length_take]; omega)
            obtain ⟨v', w2, hr2, hb2, fs, hout, hrun⟩ := cmd_push (c2 := c2) 1 HA.out (by omega) hb1 (BysL.of_buf hbuf1)
            have HP : Hid (CmdPost w b (.returned (.tuple #[v', .int .i64 ((E : Int) + 2)])) w2) := Lib.hid ⟨v', _, hout, hb2, .inr ⟨E + 2, by omega, by omega, by rw [show ((E + 2 : Nat) : Int) = (E : Int) + 2 by omega], hrun.trans (Run.one_done (stepF_cmd he hlong ha))⟩⟩
            have hdl : (b.take E).length = E := by rw [List.length_take]; omega
            rw [hdl] at hr1 hr2
            have HR1 := Lib.hid hr1
            have HR2 := Lib.hid hr2
            have t1 : decide ((8192 : Int) < tl) = false := decide_eq_false (by omega)
            have t2 : decide (8192 < tl) = false := decide_eq_false (by omega)
            have HE2 := HE
            rw [ha, annV_none] at HR
            clear he HE2 hbr htx htl hlen hbb hl hcb hpb hr1 hr2 hc2 hbuf1 hb1 hb2 hout hrun hlong hdl h1 h2 ha
            go_wp2_with fail
            refine HE.out.mono ?_
            rintro x w' ⟨rfl, rfl⟩
            go_wp2_with fail
            refine HR.out.mono ?_
            rintro x w' ⟨rfl, rfl⟩
            go_wp2_with (first | (at_builtin; refine wpList_append_run _ rfl (.tmp 45) (.tmp 48) _ _ rfl _ _ rfl rfl _ _ HR1.out ?_) | (at_builtin; refine wpList_append_run _ rfl (.tmp 44) (.tmp 51) _ _ rfl _ _ rfl rfl _ _ HR2.out ?_))
            go_ret2
            exact HP.out
          | some m =>
            by_cases hm : 65536 < m
            · obtain ⟨p2, c2, w1, hr1, hc2, hbuf1, hb1⟩ := own_copy wr (some av) cb (b.take E) (hbr.upto E) (by rw [List.length_take]; omega)
              obtain ⟨v', w2, hr2, hb2, fs, hout, hrun⟩ := cmd_push (c2 := c2) 4 HA.out (by omega) hb1 (BysL.of_buf hbuf1)
              have HP : Hid (CmdPost w b (.returned (.tuple #[v', .int .i64 ((E : Int) + 2)])) w2) := Lib.hid ⟨v', _, hout, hb2, .inr ⟨E + 2, by omega, by omega, by rw [show ((E + 2 : Nat) : Int) = (E : Int) + 2 by omega], hrun.trans (Run.one_done (stepF_big he hlong ha hm))⟩⟩
              have hdl : (b.take E).length = E := by rw [List.length_take]; omega
              rw [hdl] at hr1 hr2
              have HR1 := Lib.hid hr1
              have HR2 := Lib.hid hr2
              have t1 : decide ((8192 : Int) < tl) = false := decide_eq_false (by omega)
              have t2 : decide (8192 < tl) = false := decide_eq_false (by omega)
              have t3 : (65536 : Int) < m := by omega
              have HE2 := HE
              rw [ha, annV_some] at HR
              clear he HE2 hbr htx htl hlen hbb hl hcb hpb hr1 hr2 hc2 hbuf1 hb1 hb2 hout hrun hlong hdl h1 h2 ha hm
              go_wp2_with fail
              refine HE.out.mono ?_
              rintro x w' ⟨rfl, rfl⟩
              go_wp2_with fail
              refine HR.out.mono ?_
              rintro x w' ⟨rfl, rfl⟩
              go_wp2_with (first | (at_builtin; refine wpList_append_run _ rfl (.tmp 58) (.tmp 61) _ _ rfl _ _ rfl rfl _ _ HR1.out ?_) | (at_builtin; refine wpList_append_run _ rfl (.tmp 57) (.tmp 64) _ _ rfl _ _ rfl rfl _ _ HR2.out ?_))
              go_ret2
              exact HP.out
            · obtain ⟨v', w2, hr2, hb2, fs, hout, hrun⟩ := cmd_push (p2 := none) (c2 := 0) (d := []) 2 HA.out (by omega) (Below.refl _ _) (BysL.nil _ _ _)
              obtain ⟨mv, hmv⟩ : ∃ mv : Int, (m : Int) = mv := ⟨_, rfl⟩
              rw [ha, annV_some, hmv] at HR
              have t1 : decide ((8192 : Int) < tl) = false := decide_eq_false (by omega)
              have t2 : decide (8192 < tl) = false := decide_eq_false (by omega)
              have t3 : decide ((65536 : Int) < mv) = false := decide_eq_false (by omega)
              have t4 : 0 ≤ mv := by omega
              have t5 : mv ≤ 65536 := by omega
              have HT := Lib.hid (And.intro t4 t5)
              have HP : Hid (CmdAt w b v' (E + 2 + m) w2) := Lib.hid ⟨_, hout, hb2, hrun.trans (Run.one_ready (stepF_lit he hlong ha hm))⟩
              have t6 : IntKind.i64.wrap ((E : Int) + 2 + mv) = (E : Int) + 2 + mv := IntWalk.i64_in _ (by omega)
              have HR2 := Lib.hid hr2
              have HM := Lib.hid hmv
              have hE2 := e3
              clear he hbr htx htl hlen hbb hl hcb hpb hr2 hb2 hout hrun hlong ha hm h1 h2 hmv t5 t4
              go_wp2_with fail
              refine HE.out.mono ?_
              rintro x w' ⟨rfl, rfl⟩
              go_wp2_with fail
              refine HR.out.mono ?_
              rintro x w' ⟨rfl, rfl⟩
              go_wp2_with (at_builtin; refine wpList_append_run _ rfl (.tmp 68) (.tmp 70) _ _ rfl _ _ rfl rfl _ _ HR2.out ?_)
              go_roundw
              case rel =>
                obtain ⟨t4, t5⟩ := HT.out
                have := HM.out
                exact ⟨E + 2 + m, by rw [← this]; go_num, by omega, HP.out⟩
              case measure =>
                obtain ⟨t4, t5⟩ := HT.out
                simp [intOf]; omega
    · have hp1 : ¬ (p : Int) ≤ n := by omega
      have HW := Lib.hid (cmd_wait HA.out (stepF_short (by have := HN.out; omega)))
      go_wp2_with fail
      go_ret2
      exact HW.out
end Go.Proofs.YtllboenffepcgaaDoor
namespace Go.Proofs.YtllboenffepcgaaDoor
open Go Go.RowKit
variable {F : Fence} {n : Nat} {P : Program}

/-- How a round's body is left: at its end alone. -/
def endPost (W : World) (R : World → Prop) : Exit → Act → World → Prop
  | .normal, _, W' => KeepsOthers W W' ∧ R W'
  | _, _, _ => False

theorem wpIn_rangeFunc_state {ι α : Type} {g : Operand} {ps : Array Tmp} {assign body : Code} {Q : Exit → Act → World → Prop} {a : Act} {w : World}
    (hro : F.round = none) (h1 : 1 ≤ n) {gf : Nat} {lb : Array Value} (hg : a.eval g = .func (.func gf) #[] lb) (hFg : F.fn gf) (eg : ∀ args w, (callFunc gf args).run P w = .ok (.enter gf args) w)
    {encs : α → Array Value} (hps : ∀ x, (encs x).size = ps.size)
    (J : ι → World → Prop) (Y : ι → α → ι → Prop) (S : ι → Prop) (i0 : ι)
    (hJ : ∀ (i : ι) (W : World) (l : Nat) (o o' : Obj), w.heap.size ≤ l → W.heap[l]? = some o → o.isCells = false → J i W → J i (W.putObj l o'))
    (h0 : ∀ r, J i0 ((w.alloc (.deferred (some []))).alloc (.loop r))) (Jm : ι → α → ι → Act → World → Prop)
    (hJm : ∀ (i : ι) (x : α) (i' : ι) (a1 : Act) (W : World) (l : Nat) (o o' : Obj), w.heap.size ≤ l → W.heap[l]? = some o → o.isCells = false → Jm i x i' a1 W → Jm i x i' a1 (W.putObj l o'))
    (hassign : ∀ (l : Nat) (i : ι) (x : α) (i' : ι) (W : World) (K : Act → World → Prop), J i W → Y i x i' → w.heap.size + 1 < W.heap.size → (∀ a1 W1, KeepsOthers W W1 → Jm i x i' a1 W1 → K a1 W1) →
      assign.wpIn (F.inRound l) (n - 1 - 1) P (Exit.then K (fun _ _ _ => False)) { tmps := (ps.zip (encs x)).foldl (fun t (p, v) => t.setIfInBounds p v) a.tmps, defers := [] } W)
    (hbody : ∀ (l : Nat) (i : ι) (x : α) (i' : ι) (a1 : Act) (W : World), Jm i x i' a1 W → w.heap.size + 1 < W.heap.size → body.wpIn (F.inRound l) (n - 1 - 1) P (endPost W (J i')) a1 W)
    (hit : ∀ (R : World → Prop) (W1 : World), (∀ W W', R W → (∀ k, k = w.heap.size ∨ k = w.heap.size + 1 → W'.heap[k]? = W.heap[k]?) → R W') → (∀ W, R W → w.heap.size + 1 < W.heap.size) →
      (∀ i x i' W, J i W → R W → Y i x i' → YieldAt F (n - 1 - 1) P (w.heap.size + 1) (encs x) W fun e W' => e = .returned (.bool true) ∧ J i' W' ∧ R W') →
      J i0 W1 → R W1 → CallsIn F (n - 1) P gf (#[.func (.yield (w.heap.size + 1)) #[] #[]] ++ lb) W1 fun e W' => (∃ v, e = .returned v) ∧ ∃ i, S i ∧ J i W' ∧ R W')
    (hdone : ∀ (i : ι) (W : World), S i → J i W → W.heap[w.heap.size]? = some (.deferred (some [])) → Q .normal { a with defers := { target := .collected w.heap.size, args := #[] } :: a.defers } W) :
    (Code.rangeFunc g ps assign body).wpIn F n P Q a w := by
  refine wpIn_rangeFunc ?_
  intro fn hfn
  rw [hro]
  obtain ⟨rec, hrec⟩ : ∃ rec : LoopState → Option Code → Loop, rec = fun st pe => { state := st, pending := pe, fn, tmps := a.tmps, params := ps, assign, body, defers := w.heap.size } := ⟨_, rfl⟩
  obtain ⟨W1, hW1⟩ : ∃ W1, (w.alloc (.deferred (some []))).alloc (.loop (rec .ready none)) = W1 := ⟨_, rfl⟩
  have hL1 : W1.heap[w.heap.size + 1]? = some (.loop (rec .ready none)) := by
    rw [← hW1]; have := World.alloc_heap_new (w.alloc (.deferred (some []))) (.loop (rec .ready none)); rwa [World.size_alloc] at this
  have hK1 : W1.heap[w.heap.size]? = some (.deferred (some [])) := by
    rw [← hW1]; exact (Below.heap_alloc _ _ _ (by simp)).trans (World.alloc_heap_new w _)
  have hI1 : J i0 W1 := by rw [← hW1]; exact h0 _
  refine ⟨w.heap.size + 1, [{ target := .collected w.heap.size, args := #[] }], W1, { target := .fn (.func gf) lb, args := #[.func (.yield (w.heap.size + 1)) #[] #[]] }, W1, gf,
    #[.func (.yield (w.heap.size + 1)) #[] #[]] ++ lb, W1, ?_, ?_, ?_, ?_, fun _ => h1, ?_⟩
  · rw [← hW1, hrec]; exact run_enterLoop_outer _ _ _ _ _
  · simp only [resolve, hg]
    simp [go_sem]
  · intro f' hf'; simp [Target.leads] at hf'; subst hf'; exact hFg
  · simp [invoke, go_sem, eg]
  · refine (hit (fun W => W.heap[w.heap.size + 1]? = some (.loop (rec .ready none)) ∧ W.heap[w.heap.size]? = some (.deferred (some []))) W1
      (fun W W' h hk => ⟨(hk _ (.inr rfl)).trans h.1, (hk _ (.inl rfl)).trans h.2⟩) (fun W h => (Array.getElem?_eq_some_iff.1 h.1).1) ?_ hI1 ⟨hL1, hK1⟩).mono ?_
    · rintro i x i' W hi ⟨hl, hk⟩ hy0
      have hlt : w.heap.size + 1 < W.heap.size := (Array.getElem?_eq_some_iff.1 hl).1
      have hy := run_yield (P := P) (args := encs x) hl (by rw [hrec]; exact hps x)
      rw [hrec] at hy
      refine ⟨fn, _, assign, body, hy, roundIn_of_wpIn hfn (hassign _ i x i' W _ hi hy0 hlt ?_)⟩
      intro a1 Wm hkm him
      replace hl := hkm.same _ _ hl rfl
      replace hk := hkm.same _ _ hk rfl
      replace hlt : w.heap.size + 1 < Wm.heap.size := (Array.getElem?_eq_some_iff.1 hl).1
      refine ⟨_, run_beginRound hl (by rw [hrec]), ?_⟩
      have hl2 : (Wm.putObj (w.heap.size + 1) (.loop { rec .ready none with state := .busy })).heap[w.heap.size + 1]? = some (.loop { rec .ready none with state := .busy }) := World.putObj_heap_same hlt
      have hk2 : (Wm.putObj (w.heap.size + 1) (.loop { rec .ready none with state := .busy })).heap[w.heap.size]? = some (.deferred (some [])) := (World.putObj_heap_other (by omega)).trans hk
      refine wpIn_mono (hbody _ i x i' a1 _ (hJm _ _ _ _ _ _ _ _ (by omega) hl rfl him) (Array.getElem?_eq_some_iff.1 hl2).1) ?_
      rintro e a3 W3 hp
      cases e with
      | normal =>
        obtain ⟨hk3, hi3⟩ := hp
        have hl3 := hk3.same _ _ hl2 rfl
        have hr := run_endRound (P := P) none hl3
        rw [hrec] at hr
        refine ⟨_, _, hr, rfl, hJ _ _ _ _ _ (by omega) hl3 rfl hi3, ?_, (World.putObj_heap_other (by omega)).trans (hk3.same _ _ hk2 rfl)⟩
        rw [hrec]
        exact World.putObj_heap_same (Array.getElem?_eq_some_iff.1 hl3).1
      | _ => exact hp.elim
    · rintro e W2 ⟨⟨v, rfl⟩, i, hS, hi, hl, hk⟩
      exact ⟨none, _, by have := run_endLoop (P := P) hl (by rw [hrec]; simp); rw [hrec] at this; exact this, hdone i _ hS (hJ _ _ _ _ _ (by omega) hl rfl hi) ((World.putObj_heap_other (by omega)).trans hk)⟩
end Go.Proofs.YtllboenffepcgaaDoor
namespace Go.Proofs.YtllboenffepcgaaDoor
open Go Go.RowKit Go.Shelf
attribute [local go_sem] Oper.semAt_some

theorem wpListIn_append_run {F : Fence} {n : Nat} {P : Program} (w : World) {ops : Array Oper} {rest : List Oper} {o : Oper} {a : Act} {Q : Exit → Act → World → Prop} (hgd : o.guard = none) (d s : Operand) (dT sT : TypeId)
    (ho : o.op = .call { callee := .builtin .append, args := #[d, s], argTypes := #[dT, sT] }) (x y : Value) (hx : a.eval d = x) (hy : a.eval s = y) (v : Value) (w' : World)
    (hrun : (Builtin.append_ #[dT, sT] o.type #[x, y]).run P w = .ok v w') (h : wpListIn F n P ops Q rest (a.put o.dst v) w') : wpListIn F n P ops Q (o :: rest) a w := by
  refine wpListIn_plain hgd fun K hK' => ?_
  unfold Oper.wpIn
  refine ⟨?_, ?_⟩
  · simp [Oper.about, ho, resolve, Target.leads, Sem.run_pure]
  · rw [Oper.semAt_plain F _ _ (by rw [ho]; intro c hc'; cases hc')]
    simp [execOp, ho, resolve, invoke, builtin, hx, hy, hrun, Result.andThen]
    exact hK' _ _ h

/-- A region that does not panic serves whatever the post says of a panic. -/
theorem wpIn_region_calm {F : Fence} {n : Nat} {P : Program} {id : Nat} {ops : Array Oper} {b : Bool} {Q : Exit → Act → World → Prop} {a : Act} {w : World} (h : (Code.region id ops b).wpIn F n P (NoPanic Q) a w) : (Code.region id ops b).wpIn F n P Q a w :=
  wpIn_mono h NoPanic.imp
/-- At most one block that holds no cells has turned, from lo on. -/
def Quiet (lo : Nat) (W W' : World) : Prop := ∃ row, W.grownBy W' row ∧ ∀ r, row = some r → lo ≤ r ∧ ∃ o : Obj, W.heap[r]? = some o ∧ o.isCells = false
theorem Quiet.putObj {lo l : Nat} {W : World} {o : Obj} (o' : Obj) (hl : lo ≤ l) (h : W.heap[l]? = some o) (ho : o.isCells = false) : Quiet lo W (W.putObj l o') := ⟨some l, grownBy_putObj' W l o', fun r e => by cases e; exact ⟨hl, o, h, ho⟩⟩
theorem Quiet.alloc {lo : Nat} (W : World) (o : Obj) : Quiet lo W (W.alloc o) := ⟨none, World.grownBy_alloc W o none, fun r e => by cases e⟩
section
variable {lo : Nat} {W W' : World}
theorem Quiet.cell (h : Quiet lo W W') {a : Addr} {v : Value} (hc : W.cell? a = some v) : W'.cell? a = some v := by
  obtain ⟨row, hg, hr⟩ := h
  exact cell_kept hc hg fun r e => (hr r e).2
theorem Quiet.frozen (h : Quiet lo W W') {a : Addr} {v : Value} (hc : W.cell? a = some v) : W'.frozen? a = W.frozen? a := by
  obtain ⟨row, hg, hr⟩ := h
  exact frozen_kept hc hg fun r e => (hr r e).2
theorem Quiet.size (h : Quiet lo W W') : W.heap.size ≤ W'.heap.size := by obtain ⟨row, hg, _⟩ := h; exact hg.size
theorem Quiet.blk (h : Quiet lo W W') {g : Nat} {t : TypeId} {cs : Array Value} (hb : Blk W g t cs) : Blk W' g t cs := by
  obtain ⟨row, hg, hr⟩ := h
  refine hb.grown hg fun e => ?_
  obtain ⟨_, o, ho, hn⟩ := hr g e.symm
  rw [show W.heap[g]? = _ from hb] at ho
  injection ho with ho
  subst ho
  cases hn
theorem Quiet.below {B : Nat} {w0 : World} (h : Quiet lo W W') (hb : Below B w0 W) (hl : B ≤ lo) (hB : B ≤ W.heap.size) : Below B w0 W' := by
  obtain ⟨row, hg, hr⟩ := h
  exact hb.grown hg hB fun k e => Nat.le_trans hl (hr k e).1
theorem Quiet.bysL (h : Quiet lo W W') {ok : Nat → Prop} {p : Option Addr} {l : List UInt8} (hb : BysL W ok p l) : BysL W' ok p l := fun h0 => by
  obtain ⟨b, o, e, h1, h2, h3⟩ := hb h0
  exact ⟨b, o, e, h1, Nat.lt_of_lt_of_le h2 h.size, fun i hi => ⟨h.cell (h3 i hi).1, (h.frozen (h3 i hi).1).trans (h3 i hi).2⟩⟩
theorem Quiet.frs (h : Quiet lo W W') {ok : Nat → Prop} : ∀ {fs : List Frm} {xs : List Value}, Frs W ok fs xs → Frs W' ok fs xs
  | [], _, k => k
  | _ :: _, _, ⟨pv, cv, ys, e, hb, hr⟩ => ⟨pv, cv, ys, e, h.bysL hb, Quiet.frs h hr⟩
theorem Quiet.buf (h : Quiet lo W W') {base size n : Nat} {v : Value} {xs : List Value} (hb : Buf W base size v n xs) : Buf W' base size v n xs := by
  refine ⟨hb.1, ?_⟩
  rcases hb.2 with e | ⟨g, off, cap, rfl, h1, h2, h3, h4, h5⟩
  · exact .inl e
  · refine .inr ⟨g, off, cap, rfl, h1, Nat.lt_of_lt_of_le h2 h.size, h3, fun j u hj => h.cell (h4 j u hj), fun j hj => ?_⟩
    obtain ⟨h6, h7⟩ := h5 j hj
    obtain ⟨u, hu⟩ := Option.isSome_iff_exists.1 h6
    exact ⟨by rw [h.cell hu]; rfl, by rw [h.frozen hu]; exact h7⟩
theorem Quiet.outF (h : Quiet lo W W') {ok : Nat → Prop} {v : Value} {fs : List Frm} (hb : OutF W ok v fs) : OutF W' ok v fs := by
  obtain ⟨xs, h1, h2, h3⟩ := hb
  exact ⟨xs, h.buf h1, h.frs h2, h3⟩
theorem Quiet.spl (h : Quiet lo W W') {s p : Nat} {r : Option Nat} {b : List UInt8} (hb : Spl W s r b p) : Spl W' s r b p := by
  obtain ⟨v, a, k, e, h1, h2, h3⟩ := hb
  exact ⟨v, a, k, e, h.blk h1, h.buf h2, h3⟩
theorem Quiet.low (h : Quiet lo W W') {w0 : World} {s : Nat} (hb : Low w0 W s) (hl : w0.heap.size ≤ lo) : Low w0 W' s := ⟨h.below hb.1 hl hb.1.size, hb.2⟩
end

/-- Where a range over the frames stands: what has come, what is about to come, the splitter. -/
structure Gs where
  fs : List Frm
  pend : Option (Frm × Option Addr × Nat)
  r : Option Nat
  b : List UInt8
  p : Nat
def frmV (f : Frm) (pv : Option Addr) (cv : Nat) : Value := .agg #[.int .i64 f.kind, .slice pv f.data.length cv]
def Gs.takes (i : Gs) (v : Value) (i' : Gs) : Prop := ∃ f pv cv, i.pend = some (f, pv, cv) ∧ v = frmV f pv cv ∧ i' = { i with fs := i.fs ++ [f], pend := none }
/-- What is left to come, off the memory. -/
def gleft (s : Nat) (W : World) : Nat :=
  match W.cell? ⟨s, 0, none⟩, W.cell? ⟨s, 1, none⟩, W.cell? ⟨s, 2, none⟩ with
  | some (.slice _ n _), some (.int _ a), some (.int _ k) => 2 * n + 2 - min (a + k).toNat (n + 1)
  | _, _, _ => 0
theorem gleft_eq {W : World} {s p : Nat} {r : Option Nat} {b : List UInt8} (h : Spl W s r b p) : gleft s W = left b p := by
  obtain ⟨v, a, k, e, h1, h2, h3, h4, -⟩ := h
  obtain ⟨pv, cv, rfl, -, -⟩ := h2.bys
  obtain ⟨⟨c0, c1, c2, c3⟩, -⟩ := blk4 h1
  unfold gleft left
  rw [c0, c1, c2]
  simp only
  rw [show ((a : Int) + (k : Int)).toNat = p by omega]
/-- What the iterator asks of the invariant. -/
structure Steps (w0 : World) (s B : Nat) (J : Gs → World → Prop) : Prop where
  at_ : ∀ i W, J i W → Spl W s i.r i.b i.p ∧ i.b.length ≤ 1048576 ∧ Low w0 W s ∧ W.cell? ⟨B, 0, none⟩ = some (.pointer (some ⟨s, 0, none⟩))
  alloc : ∀ i W o, J i W → J i (W.alloc o)
  wait : ∀ i W W', J i W → W.grownBy W' (some s) → Spl W' s i.r i.b i.p → i.pend = none → J i W'
  ready : ∀ i W W' a n, J i W → stepF i.b i.p = .ready a n → i.pend = none → W.grownBy W' (some s) → Spl W' s i.r i.b (a + n) → J { i with pend := some (⟨2, []⟩, none, 0), p := a + n } W'
  done : ∀ i W W' f k r' pv cv, J i W → stepF i.b i.p = .done f k → i.pend = none → W.grownBy W' (some s) → Spl W' s r' (i.b.drop k) 0 → BysL W' (fun g => W.heap.size ≤ g ∧ r' ≠ some g) pv f.data → (∀ g, r' = some g → W.heap.size ≤ g) → J { i with pend := some (f, pv, cv), r := r', b := i.b.drop k, p := 0 } W'
/-- One call of Next, in the invariant's words. -/
def NxJ (J : Gs → World → Prop) (i : Gs) (W : World) (s : Nat) (x : Ending) (W' : World) : Prop :=
  W.grownBy W' (some s) ∧ ((x = .returned (.tuple #[.agg #[.int .i64 0, .slice none 0 0], .bool false]) ∧ stepF i.b i.p = .wait ∧ J i W') ∨
  ∃ i' i2 kd pv n cv, x = .returned (.tuple #[.agg #[.int .i64 kd, .slice pv n cv], .bool true]) ∧ J i' W' ∧ i'.takes (.agg #[.int .i64 kd, .slice pv n cv]) i2 ∧ i2.pend = none ∧ left i2.b i2.p < left i.b i.p)
theorem nx_J {w0 : World} {s B : Nat} {J : Gs → World → Prop} (hJ : Steps w0 s B J) {i : Gs} {W W' : World} {x : Ending} (h : J i W) (hp : i.pend = none) (hn : NxPost W s i.r i.b (stepF i.b i.p) i.p x W') : NxJ J i W s x W' := by
  refine ⟨hn.1, ?_⟩
  obtain ⟨hg, hn⟩ := hn
  cases hs : stepF i.b i.p with
  | wait => rw [hs] at hn; exact .inl ⟨hn.1, rfl, hJ.wait _ _ _ h hg hn.2 hp⟩
  | ready a n =>
    rw [hs] at hn
    exact .inr ⟨_, _, 2, none, 0, 0, hn.1, hJ.ready _ _ _ a n h hs hp hg hn.2, ⟨⟨2, []⟩, none, 0, rfl, rfl, rfl⟩, rfl, left_ready hs⟩
  | done f k =>
    rw [hs] at hn
    obtain ⟨pv, c, r', rfl, h1, h2, h3⟩ := hn
    exact .inr ⟨_, _, f.kind, pv, f.data.length, c, rfl, hJ.done _ _ _ f k r' pv c h hs hp hg h2 h1 h3, ⟨f, pv, c, rfl, rfl, rfl⟩, rfl, left_done hs⟩

set_option maxRecDepth 100000 in
set_option maxHeartbeats 1000000 in
theorem all1_in {w0 : World} {s B : Nat} {J : Gs → World → Prop} (hJ : Steps w0 s B J) (n : Nat) (hn : 2 ≤ n) (lp : Nat) (R : World → Prop) (lo : Nat) (hlo : s < lo) (hR : ∀ W W', R W → (∀ k, k = lo ∨ k = lo + 1 → W'.heap[k]? = W.heap[k]?) → R W') (hRs : ∀ W, R W → lo + 1 < W.heap.size)
    (hY : ∀ i x i' W, J i W → R W → i.takes x i' → YieldAt Fence.wide (n - 1) Tryd.prog lp #[x] W fun e W' => e = .returned (.bool true) ∧ J i' W' ∧ R W') (i0 : Gs) (hi0 : i0.pend = none) (W1 : World) (h0 : J i0 W1) (hR0 : R W1) :
    CallsIn Fence.wide n Tryd.prog 42 (#[.func (.yield lp) #[] #[]] ++ #[.pointer (some ⟨B, 0, none⟩)]) W1 fun e W' => (∃ v, e = .returned v) ∧ ∃ i, (i.pend = none ∧ stepF i.b i.p = .wait) ∧ J i W' ∧ R W' := by
  refine callsIn_of_wp Tryd.func42 rfl trivial ?_ rfl
  simp only [Tryd.ntmps42, List.size_toArray, List.length_cons, List.length_nil, Nat.reduceAdd, Nat.reduceSub, Array.replicate_succ, Array.replicate_zero, List.push_toArray, List.append_toArray, List.nil_append, List.cons_append]
  gi_wp2
  gi_loopw [5] (fun _ wr => ∃ i : Gs, i.pend = none ∧ J i wr ∧ R wr) (fun _ wr => gleft s wr)
  case atStart => exact ⟨i0, hi0, h0, hR0⟩
  case round =>
    obtain ⟨i, hp, hJi, hRi⟩ := hrel
    obtain ⟨hsp, hbl, hL, hbx⟩ := hJ.at_ _ _ hJi
    have HN := Lib.hid (callsIn_wide (n := n - 1).2 ((next_any w0 s i.r i.b i.p wr hsp hbl hL).mono fun e W' h => nx_J hJ hJi hp h))
    have HI := Lib.hid (And.intro hsp (And.intro hp (And.intro hJi hRi)))
    clear hsp hbl hL hp hJi hRi hi0 h0 hR0
    gi_wp2
    refine ⟨trivial, fun _ => Nat.le_trans (by decide) hn, ?_⟩
    refine HN.out.mono ?_
    rintro e w2 ⟨hg, (⟨rfl, hw, hj⟩ | ⟨i', i2, kd, pv, m, cv, rfl, hj, ht, hp2, hl⟩)⟩
    · have hR2 : R w2 := hR _ _ HI.out.2.2.2 (fun k hk => by
        have := hRs _ HI.out.2.2.2
        exact hg.block k (by omega) (fun e => by injection e with e; omega))
      have hRA : ∀ o, R (w2.alloc o) := fun o => hR _ _ hR2 (fun k hk => by
        have := hRs _ hR2
        exact Below.heap_alloc w2 o k (by omega))
      have HH := Lib.hid (And.intro hg (And.intro hw (And.intro hj (And.intro hRA hR2))))
      clear hg hw hj hRA hR2
      gi_wp2
      refine ⟨fun _ h => (by cases h), ?_⟩
      gi_wp2
      refine bodyPost_ret (results_none rfl _ _ _) rfl ?_
      exact ⟨⟨_, rfl⟩, i, ⟨HI.out.2.1, HH.out.2.1⟩, hJ.alloc _ _ _ HH.out.2.2.1, HH.out.2.2.2.1 _⟩
    · have hR2 : R w2 := hR _ _ HI.out.2.2.2 (fun k hk => by
        have := hRs _ HI.out.2.2.2
        exact hg.block k (by omega) (fun e => by injection e with e; omega))
      have hRA : ∀ o, R (w2.alloc o) := fun o => hR _ _ hR2 (fun k hk => by
        have := hRs _ hR2
        exact Below.heap_alloc w2 o k (by omega))
      obtain ⟨fn, tmps, assign, body, hy, hRd⟩ := hY i' _ i2 (w2.alloc (.cells #[.int .i64 kd, .slice pv m cv] 37)) (hJ.alloc _ _ _ hj) (hRA _) ht
      have HRd := Lib.hid hRd
      have hm : gleft s wr = left i.b i.p := gleft_eq HI.out.1
      have HH := Lib.hid (And.intro hg (And.intro hl (And.intro hp2 hm)))
      clear hg hl hp2 hm hRA hR2 ht hj hRd
      gi_wp2
      refine ⟨fun _ => Nat.le_trans (by decide) hn, ?_⟩
      refine HRd.out.mono ?_
      rintro e w3 ⟨rfl, hj3, hR3⟩
      have HH2 := Lib.hid (And.intro hj3 hR3)
      clear hj3 hR3
      gi_wp2
      go_roundw
      case rel => exact ⟨i2, HH.out.2.2.1, HH2.out⟩
      case measure =>
        rw [HH.out.2.2.2, gleft_eq (hJ.at_ _ _ HH2.out.1).1]
        exact HH.out.2.1
end Go.Proofs.YtllboenffepcgaaDoor
