/- The walks of slices.Grow (on nil) and slices.Concat over bytes. -/
import Derived.Test.YtkifhgnoadmfkaaDoorJ4
import Derived.Lib.AppendZeros
set_option linter.unusedVariables false
set_option linter.unusedSimpArgs false
namespace Go.Proofs.YtkifhgnoadmfkaaDoor
open Go.RowKit

theorem grow_run (w : World) (n : Nat) (h0 : 0 < n) (hn : n ≤ 1048576) :
    ∃ g cap w', (Builtin.append_ #[22, 3] 22 #[.slice none 0 0, .int .i64 n]).run Tryd.prog w = .ok (.slice (some ⟨g, 0, none⟩) n cap) w' ∧ n ≤ cap ∧ Buf w' w.heap.size 1 (.slice (some ⟨g, 0, none⟩) 0 cap) 0 [] ∧ Below w.heap.size w w' := by
  obtain ⟨i0, hi, hz0, hz1, hz2⟩ := info_parts infoU8
  have hrun := Lib.run_append_nil_zeros (P := Tryd.prog) w 22 3 22 5 i0 (.int .u8 0) .i64 .i64 Tryd.underlying22 Tryd.underlying3 hi hz0 n h0 (by rw [hz1]; decide) (by omega) (by rw [hz2]; omega)
  have hge := grownCap_ge w n 0 5
  refine ⟨_, _, _, hrun, hge, ?_, Below.alloc (Below.drew (Below.refl _ _)) (Nat.le_refl _) _⟩
  have hh := heap_alloc_new w.drew (.cells (Builtin.zeroCells (Value.int .u8 0).cells n ++ Builtin.zeroCells (Value.int .u8 0).cells (grownCap w n 0 5 - n)) 5)
  have hsz : (Builtin.zeroCells (Value.int .u8 0).cells n ++ Builtin.zeroCells (Value.int .u8 0).cells (grownCap w n 0 5 - n)).size = grownCap w n 0 5 := by
    simp [Builtin.zeroCells, Value.cells]; omega
  refine ⟨rfl, .inr ⟨_, 0, _, rfl, Nat.le_refl _, by rw [World.size_alloc]; show w.heap.size < w.heap.size + 1; omega, Nat.zero_le _, fun j u hj => by simp at hj, fun j hj => ?_⟩⟩
  have hh' : (w.drew.alloc (.cells (Builtin.zeroCells (Value.int .u8 0).cells n ++ Builtin.zeroCells (Value.int .u8 0).cells (grownCap w n 0 5 - n)) 5)).heap[w.heap.size]? = _ := hh
  refine ⟨?_, ?_⟩
  · simp only [World.cell?, hh', Nat.zero_add]
    rw [Array.getElem?_eq_getElem (by rw [hsz]; omega)]; rfl
  · simp only [World.frozen?, hh', Nat.zero_add]
    simp

set_option maxRecDepth 100000 in
theorem grow_any (n : Nat) (hn : n ≤ 1048576) (w : World) :
    Calls Tryd.prog 27 #[.slice none 0 0, .int .i64 n] w fun e w' => ∃ v, e = .returned v ∧ Buf w' w.heap.size 1 v 0 [] ∧ Below w.heap.size w w' := by
  by_cases h0 : 0 < n
  · obtain ⟨g, cap, w', hrun, hc, hbuf, hb⟩ := grow_run w n h0 hn
    have HR := Lib.hid hrun
    have HB := Lib.hid hbuf
    have hi0 : (0 : Int) < n := by omega
    have hi1 : (n : Int) ≤ 1048576 := by omega
    clear hrun hbuf
    go_enter Tryd.func27, Tryd.ntmps27
    go_wp2_with (at_builtin; refine wpList_append_run _ rfl (.tmp 20) (.tmp 21) _ _ rfl _ _ rfl rfl _ _ HR.out ?_)
    go_ret
    exact ⟨_, rfl, HB.out, hb⟩
  · obtain rfl : n = 0 := by omega
    go_enter Tryd.func27, Tryd.ntmps27
    go_wp2_with fail
    go_ret
    exact ⟨_, rfl, Buf.nil _ _ _, Below.refl _ _⟩

/-- The bytes of the first k parts. -/
def flat (L : List (List UInt8)) (k : Nat) : List UInt8 := (L.take k).flatten
theorem flat_next {L : List (List UInt8)} {k : Nat} (h : k < L.length) : flat L (k + 1) = flat L k ++ L[k] := by
  unfold flat; rw [List.take_succ_eq_append_getElem h, List.flatten_append]; simp
theorem flat_le (L : List (List UInt8)) (k : Nat) : (flat L k).length ≤ L.flatten.length := by
  conv => rhs; rw [← List.take_append_drop k L, List.flatten_append, List.length_append]
  unfold flat; omega
theorem flat_all (L : List (List UInt8)) (k : Nat) (h : L.length ≤ k) : flat L k = L.flatten := by unfold flat; rw [List.take_of_length_le h]

set_option maxRecDepth 100000 in
set_option maxHeartbeats 1600000 in
theorem concat_any (b off cap : Nat) (L : List (List UInt8)) (w : World) (hL : L.flatten.length ≤ 1048576) (hm : L.length ≤ 1048576) (hb0 : 0 < L.length)
    (hc : ∀ k (hk : k < L.length), ∃ p c, w.cell? ⟨b, off + k, none⟩ = some (.slice p L[k].length c) ∧ b < w.heap.size ∧ Bys w w.heap.size p L[k]) :
    Calls Tryd.prog 14 #[.slice (some ⟨b, off, none⟩) L.length cap] w (RetB w L.flatten) := by
  have HC := Lib.hid hc
  have HL := Lib.hid hL
  have HN : Hid (∀ k (hk : k < L.length), ∃ l, L[k] = l ∧ flat L (k + 1) = flat L k ++ l ∧ (flat L k).length + l.length ≤ 1048576) := Lib.hid fun k hk =>
    ⟨_, rfl, flat_next hk, by have := flat_le L (k + 1); rw [flat_next hk, List.length_append] at this; omega⟩
  have HZ : Hid (flat L L.length = L.flatten) := Lib.hid (flat_all L _ (Nat.le_refl _))
  have hF : ∀ k, Hid ((flat L k).length ≤ 1048576) := fun k => Lib.hid (by have := flat_le L k; omega)
  obtain ⟨m, hmm⟩ : ∃ m, m = L.length := ⟨_, rfl⟩
  rw [← hmm]
  have HM := Lib.hid hmm
  have hm1 : m ≤ 1048576 := by omega
  clear hc hL hm hmm hb0
  go_enter Tryd.func14, Tryd.ntmps14
  go_wp2_with fail
  go_loop [3, 11] (fun s i => ∃ k : Nat, k ≤ m ∧ i = .int .i64 (k : Int) ∧ s = .int .i64 ((flat L k).length : Int)) (fun _ i => m - (intOf i).toNat)
  case atStart => exact ⟨0, Nat.zero_le _, rfl, rfl⟩
  case round =>
    obtain ⟨k, hk, rfl, rfl⟩ := hrel
    by_cases hlt : k < m
    · obtain ⟨p, c, hcell, hbw, _⟩ := HC.out k (by have := HM.out; omega)
      obtain ⟨l, hl, hfl, hsz⟩ := HN.out k (by have := HM.out; omega)
      rw [hl] at hcell
      have e1 : ((flat L k).length : Int) + (l.length : Int) = ((flat L (k + 1)).length : Int) := by rw [hfl, List.length_append]; omega
      have HE := Lib.hid e1
      have hi0 : (0 : Int) ≤ k := by omega
      have hi1 : (k : Int) < m := by omega
      clear hl hfl e1
      generalize (flat L k).length = x at *
      generalize l.length = z at *
      have hx : (x : Int) + z ≤ 1048576 := by omega
      have hx0 : (0 : Int) ≤ (x : Int) + z := by omega
      go_wp2_with fail
      go_round
      case rel => exact ⟨k + 1, by omega, by go_num, by rw [← HE.out]⟩
      case measure => simp [intOf]; omega
    · have hkm : k = m := by omega
      subst hkm
      have e2 : flat L k = L.flatten := by rw [HM.out]; exact HZ.out
      rw [e2]
      have HG := Lib.hid (fun w => grow_any L.flatten.length HL.out w)
      generalize hnn : L.flatten.length = n at HG
      go_wp2_with fail
      refine (HG.out w).mono ?_
      rintro e w1 ⟨v, rfl, hbuf, hb1⟩
      go_wp2_with fail
      go_loopw [6, 27] (fun v i wr => ∃ j : Nat, j ≤ k ∧ i = .int .i64 (j : Int) ∧ Buf wr w.heap.size 1 v (flat L j).length (Lib.byteCells (flat L j)) ∧ Below w.heap.size w wr) (fun _ i _ => k - (intOf i).toNat)
      case atStart => exact ⟨0, Nat.zero_le _, rfl, hbuf, hb1⟩
      case round =>
        obtain ⟨j, hj, rfl, hbuf, hb2⟩ := hrel
        by_cases hlt : j < k
        · obtain ⟨p, c, hcell, hbw, hbys⟩ := HC.out j (by have := HM.out; omega)
          obtain ⟨l, hl, hfl, hsz⟩ := HN.out j (by have := HM.out; omega)
          rw [hl] at hcell hbys
          obtain ⟨i0, hi, hz0, hz1, hz2⟩ := info_parts infoU8
          obtain ⟨v2, w2, hrun2, hbuf2, hgr, _⟩ := run_append_buf (P := Tryd.prog) wr 22 22 5 i0 (.int .u8 0) 1 1 Tryd.underlying22 hi hz0 hz1 hz2 rfl (by decide) w.heap.size _ (flat L j).length _ hbuf p l.length c _ (src_bys (hbys.below hb2)) (by unfold maxLen; omega) (by omega) hb2.size
          rw [← byteCells_app, ← hfl] at hbuf2
          rw [← List.length_append, ← hfl] at hbuf2
          have hb3 : Below w.heap.size w w2 := hb2.grown hgr hb2.size (fun q hq => by
            rcases hbuf.2 with ⟨rfl, _⟩ | ⟨g, off, c, rfl, hg, _⟩
            · simp [Value.ownBlock] at hq
            · simp only [Value.ownBlock, Option.some.injEq] at hq; omega)
          have hcw : wr.cell? ⟨b, off + j, none⟩ = some (.slice p l.length c) := by rw [hb2.cell (by exact hbw)]; exact hcell
          have HR2 := Lib.hid hrun2
          have HB2 := Lib.hid hbuf2
          have HB3 := Lib.hid hb3
          have hi0 : (0 : Int) ≤ j := by omega
          have hi1 : (j : Int) < k := by omega
          clear hrun2 hbuf2 hb3 hgr hbuf hl hfl hsz hcell hbys hi hb2 hbw
          generalize l.length = z at *
          go_wp2_with (at_builtin; refine wpList_append_run _ rfl (.tmp 31) (.tmp 32) _ _ rfl _ _ rfl rfl _ _ HR2.out ?_)
          go_roundw
          case rel => exact ⟨j + 1, by omega, by go_num, HB2.out, HB3.out⟩
          case measure => simp [intOf]; omega
        · have hjk : j = k := by omega
          subst hjk
          rw [e2] at hbuf
          have HB := Lib.hid hbuf
          have HB2 := Lib.hid hb2
          clear hbuf hb2
          go_wp2_with fail
          go_ret
          exact ⟨_, rfl, HB.out, HB2.out⟩

theorem concat2 (w : World) (p q : Option Addr) (c d : Nat) (l m : List UInt8) (hp : Bys w w.heap.size p l) (hq : Bys w w.heap.size q m) (hl : l.length + m.length ≤ 1048576) :
    Calls Tryd.prog 14 #[.slice (some ⟨w.heap.size, 0, none⟩) 2 2] (w.alloc (.cells #[.slice p l.length c, .slice q m.length d] 22)) (RetB (w.alloc (.cells #[.slice p l.length c, .slice q m.length d] 22)) (l ++ m)) := by
  have hh := heap_alloc_new w (.cells #[.slice p l.length c, .slice q m.length d] 22)
  have hs : (w.alloc (.cells #[.slice p l.length c, .slice q m.length d] 22)).heap.size = w.heap.size + 1 := World.size_alloc _ _
  have hb : Below w.heap.size w (w.alloc (.cells #[.slice p l.length c, .slice q m.length d] 22)) := (Below.refl _ _).alloc (Nat.le_refl _) _
  have h := concat_any w.heap.size 0 2 [l, m] (w.alloc (.cells #[.slice p l.length c, .slice q m.length d] 22)) (by simp; omega) (by simp) (by simp) (fun k hk => by
    match k, hk with
    | 0, _ => exact ⟨p, c, by simp only [World.cell?, hh]; rfl, by omega, (hp.below hb).more (by omega)⟩
    | 1, _ => exact ⟨q, d, by simp only [World.cell?, hh]; rfl, by omega, (hq.below hb).more (by omega)⟩)
  rw [show [l, m].flatten = l ++ m by simp] at h
  exact h
theorem concat3 (w : World) (p q r : Option Addr) (c d f : Nat) (l m k : List UInt8) (hp : Bys w w.heap.size p l) (hq : Bys w w.heap.size q m) (hr : Bys w w.heap.size r k) (hl : l.length + m.length + k.length ≤ 1048576) :
    Calls Tryd.prog 14 #[.slice (some ⟨w.heap.size, 0, none⟩) 3 3] (w.alloc (.cells #[.slice p l.length c, .slice q m.length d, .slice r k.length f] 22)) (RetB (w.alloc (.cells #[.slice p l.length c, .slice q m.length d, .slice r k.length f] 22)) (l ++ (m ++ k))) := by
  have hh := heap_alloc_new w (.cells #[.slice p l.length c, .slice q m.length d, .slice r k.length f] 22)
  have hs : (w.alloc (.cells #[.slice p l.length c, .slice q m.length d, .slice r k.length f] 22)).heap.size = w.heap.size + 1 := World.size_alloc _ _
  have hb : Below w.heap.size w (w.alloc (.cells #[.slice p l.length c, .slice q m.length d, .slice r k.length f] 22)) := (Below.refl _ _).alloc (Nat.le_refl _) _
  have h := concat_any w.heap.size 0 3 [l, m, k] (w.alloc (.cells #[.slice p l.length c, .slice q m.length d, .slice r k.length f] 22)) (by simp; omega) (by simp) (by simp) (fun j hj => by
    match j, hj with
    | 0, _ => exact ⟨p, c, by simp only [World.cell?, hh]; rfl, by omega, (hp.below hb).more (by omega)⟩
    | 1, _ => exact ⟨q, d, by simp only [World.cell?, hh]; rfl, by omega, (hq.below hb).more (by omega)⟩
    | 2, _ => exact ⟨r, f, by simp only [World.cell?, hh]; rfl, by omega, (hr.below hb).more (by omega)⟩)
  rw [show [l, m, k].flatten = l ++ (m ++ k) by simp] at h
  exact h
end Go.Proofs.YtkifhgnoadmfkaaDoor
