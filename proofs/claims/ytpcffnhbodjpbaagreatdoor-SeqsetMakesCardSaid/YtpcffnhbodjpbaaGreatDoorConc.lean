/- The walks of slices.Grow (on nil) and slices.Concat over ranges and over numbers. -/
import Derived.Test.YtpcffnhbodjpbaaGreatDoorResW
import Derived.Lib.AppendZeros
set_option linter.unusedVariables false
set_option linter.unusedSimpArgs false
namespace Go.Proofs.YtpcffnhbodjpbaaGreatDoor
open Go Go.RowKit Go.Shelf Go.Lib Go.Sort

/-- The source of an append, in a block below B. -/
def SrcLo (w : World) (B size : Nat) (A : Option Addr) (m : Nat) (xs : List Value) : Prop :=
  xs.length = m * size ∧ (∀ u ∈ xs, u.oneCell' = true) ∧ (0 < m → ∃ b o, A = some ⟨b, o, none⟩ ∧ b < B ∧ ∀ j u, xs[j]? = some u → w.cell? ⟨b, o + j, none⟩ = some u)
theorem SrcLo.below {w w' : World} {B n size m : Nat} {A : Option Addr} {xs : List Value} (h : SrcLo w B size A m xs) (hb : Below n w w') (hn : B ≤ n) : SrcLo w' B size A m xs :=
  ⟨h.1, h.2.1, fun h0 => by
    obtain ⟨b, o, e, h1, h2⟩ := h.2.2 h0
    exact ⟨b, o, e, h1, fun j u hj => (hb.cell (p := ⟨b, o + j, none⟩) (Nat.lt_of_lt_of_le h1 hn)).trans (h2 j u hj)⟩⟩
theorem SrcLo.more {w : World} {B B' size m : Nat} {A : Option Addr} {xs : List Value} (h : SrcLo w B size A m xs) (hB : B ≤ B') : SrcLo w B' size A m xs :=
  ⟨h.1, h.2.1, fun h0 => by
    obtain ⟨b, o, e, h1, h2⟩ := h.2.2 h0
    exact ⟨b, o, e, by omega, h2⟩⟩
theorem SrcLo.src {w : World} {B size m : Nat} {A : Option Addr} {xs : List Value} (h : SrcLo w B size A m xs) : Src w size A m xs :=
  ⟨h.1, h.2.1, fun h0 => by
    obtain ⟨b, o, e, h1, h2⟩ := h.2.2 h0
    exact ⟨_, e, fun j u hj => by rw [Go.WideShapes.add_plain]; exact h2 j u hj⟩⟩
def enc1 (x : Int) : List Value := [.int .u32 x]
theorem enc1_map (l : List Int) : l.flatMap enc1 = l.map (Value.int .u32) := by
  induction l with
  | nil => rfl
  | cons x l ih => rw [List.flatMap_cons, ih]; rfl
theorem enc1_len (l : List Int) : (l.flatMap enc1).length = l.length * 1 := by rw [enc1_map, List.length_map, Nat.mul_one]
theorem enc1_one (l : List Int) : ∀ u ∈ l.flatMap enc1, u.oneCell' = true := fun u hu => by
  rw [enc1_map] at hu
  obtain ⟨x, _, rfl⟩ := List.mem_map.1 hu
  rfl
theorem encB_one (l : List RB) : ∀ u ∈ l.flatMap encB, u.oneCell' = true := fun u hu => by
  obtain ⟨x, _, hx⟩ := List.mem_flatMap.1 hu
  unfold encB encR at hx
  simp at hx
  rcases hx with rfl | rfl <;> rfl
theorem SrcLo.of_rd {w : World} {B m c : Nat} {A : Option Addr} {l : List Int} (h : Rd1 w B (.slice A m c) (l.map (Value.int .u32))) : m = l.length ∧ SrcLo w B 1 A m (l.flatMap enc1) := by
  obtain ⟨A', c', e, h1, h2⟩ := h
  injection e with e1 e2 e3
  subst e1
  rw [List.length_map] at e2 h2
  refine ⟨e2, by rw [enc1_len, e2], enc1_one l, fun h0 => ?_⟩
  obtain ⟨b, o, e4, h3, h4⟩ := h2 (by omega)
  refine ⟨b, o, e4, h3, fun j u hj => h4 j u ?_⟩
  rwa [enc1_map] at hj
theorem SrcLo.of_rg {w : World} {B m c : Nat} {A : Option Addr} {l : List RB} (h : RgL w B (.slice A m c) (l.map RB.rng)) : m = l.length ∧ SrcLo w B 2 A m (l.flatMap encB) := by
  obtain ⟨A', c', e, h1, h2⟩ := h
  injection e with e1 e2 e3
  subst e1
  rw [List.length_map] at e2 h2
  refine ⟨e2, by rw [flat_len, e2], encB_one l, fun h0 => ?_⟩
  obtain ⟨b, o, e4, h3, h4⟩ := h2 (by omega)
  refine ⟨b, o, e4, h3, fun j u hj => ?_⟩
  have hj1 : j < l.length * 2 := by
    have := (List.getElem?_eq_some_iff.1 hj).1
    rwa [flat_len] at this
  have hk : j / 2 < l.length := by omega
  obtain ⟨f0, f1⟩ := flat_get l (j / 2) l[j / 2] (List.getElem?_eq_getElem hk)
  obtain ⟨g0, g1⟩ := h4 (j / 2) (RB.rng l[j / 2]) (by rw [List.getElem?_map, List.getElem?_eq_getElem hk]; rfl)
  rcases Nat.mod_two_eq_zero_or_one j with hm | hm
  · have hj2 : j = j / 2 * 2 := by omega
    rw [← hj2] at f0 g0
    rw [hj] at f0
    injection f0 with f0
    rw [g0, f0]
  · have hj2 : j = j / 2 * 2 + 1 := by omega
    rw [Nat.add_assoc, ← hj2] at g1
    rw [← hj2] at f1
    rw [hj] at f1
    injection f1 with f1
    rw [g1, f1]
theorem RgL.of_buf {W : World} {base : Nat} {v : Value} {l : List RB} (h : Buf W base 2 v l.length (l.flatMap encB)) : RgL W W.heap.size v (l.map RB.rng) := by
  rcases h.2 with ⟨rfl, h0⟩ | ⟨g, off, cap, rfl, h1, h2, h3, h4, -⟩
  · have e : l = [] := List.eq_nil_of_length_eq_zero h0
    subst e
    exact ⟨none, 0, rfl, Nat.le_refl _, fun h => absurd h (by simp)⟩
  · refine ⟨_, cap, by rw [List.length_map], by rw [List.length_map]; exact h3, fun _ => ⟨g, off, rfl, h2, fun j r hj => ?_⟩⟩
    rw [List.getElem?_map] at hj
    cases hx : l[j]? with
    | none => rw [hx] at hj; cases hj
    | some x =>
      rw [hx] at hj
      injection hj with hj
      subst hj
      obtain ⟨f0, f1⟩ := flat_get l j x hx
      exact ⟨h4 _ _ f0, h4 _ _ f1⟩
/-- The elements of the first k parts. -/
def flatA {α : Type} (L : List (List α)) (k : Nat) : List α := (L.take k).flatten
theorem flatA_next {α : Type} {L : List (List α)} {k : Nat} (h : k < L.length) : flatA L (k + 1) = flatA L k ++ L[k] := by
  unfold flatA; rw [List.take_succ_eq_append_getElem h, List.flatten_append]; simp
theorem flatA_le {α : Type} (L : List (List α)) (k : Nat) : (flatA L k).length ≤ L.flatten.length := by
  conv => rhs; rw [← List.take_append_drop k L, List.flatten_append, List.length_append]
  unfold flatA; omega
theorem flatA_all {α : Type} (L : List (List α)) (k : Nat) (h : L.length ≤ k) : flatA L k = L.flatten := by unfold flatA; rw [List.take_of_length_le h]

theorem infoR : (Tryz.prog.info? 32).map (fun i => (i.zero, i.size, i.bytes)) = some (some (.agg #[.int .u32 0, .int .u32 0]), 2, 8) := by kernel_rfl
theorem growR_run (w : World) (n : Nat) (h0 : 0 < n) (hn : n ≤ 1048576) :
    ∃ g cap w', (Builtin.append_ #[22, 3] 22 #[.slice none 0 0, .int .i64 n]).run Tryz.prog w = .ok (.slice (some ⟨g, 0, none⟩) n cap) w' ∧ n ≤ cap ∧ Buf w' w.heap.size 2 (.slice (some ⟨g, 0, none⟩) 0 cap) 0 [] ∧ Below w.heap.size w w' := by
  obtain ⟨i0, hi, hz0, hz1, hz2⟩ := info_parts infoR
  have hrun := Lib.run_append_nil_zeros (P := Tryz.prog) w 22 3 22 32 i0 (.agg #[.int .u32 0, .int .u32 0]) .i64 .i64 Tryz.underlying22 Tryz.underlying3 hi hz0 n h0 (by rw [hz1]; decide) (by omega) (by rw [hz2]; omega)
  have hge := grownCap_ge w n 0 32
  obtain ⟨cap, hcap⟩ : ∃ c, grownCap w n 0 32 = c := ⟨_, rfl⟩
  rw [hcap] at hrun hge
  obtain ⟨cs, hcs⟩ : ∃ c, Builtin.zeroCells (Value.cells (.agg #[.int .u32 0, .int .u32 0])) n ++ Builtin.zeroCells (Value.cells (.agg #[.int .u32 0, .int .u32 0])) (cap - n) = c := ⟨_, rfl⟩
  rw [hcs] at hrun
  have hsz : cs.size = cap * 2 := by
    rw [← hcs]; simp [Builtin.zeroCells, Value.cells]; omega
  have hh := heap_alloc_new w.drew (.cells cs 32)
  refine ⟨_, _, _, hrun, hge, ?_, Below.alloc (Below.drew (Below.refl _ _)) (Nat.le_refl _) _⟩
  refine ⟨rfl, .inr ⟨_, 0, _, rfl, Nat.le_refl _, by rw [World.size_alloc]; show w.heap.size < w.heap.size + 1; omega, Nat.zero_le _, fun j u hj => by simp at hj, fun j hj => ?_⟩⟩
  have hh' : (w.drew.alloc (.cells cs 32)).heap[w.heap.size]? = _ := hh
  refine ⟨?_, ?_⟩
  · simp only [World.cell?, hh', Nat.zero_add]
    rw [Array.getElem?_eq_getElem (by rw [hsz]; omega)]; rfl
  · simp only [World.frozen?, hh', Nat.zero_add]
    simp

set_option maxRecDepth 100000 in
theorem growR_any (n : Nat) (hn : n ≤ 1048576) (w : World) :
    Calls Tryz.prog 38 #[.slice none 0 0, .int .i64 n] w fun e w' => ∃ v, e = .returned v ∧ Buf w' w.heap.size 2 v 0 [] ∧ Below w.heap.size w w' := by
  by_cases h0 : 0 < n
  · obtain ⟨g, cap, w', hrun, hc, hbuf, hb⟩ := growR_run w n h0 hn
    have HR := Lib.hid hrun
    have HB := Lib.hid hbuf
    have hi0 : (0 : Int) < n := by omega
    have hi1 : (n : Int) ≤ 1048576 := by omega
    clear hrun hbuf
    go_enter Tryz.func38, Tryz.ntmps38
    go_wp2_with (at_builtin; refine wpList_append_run _ rfl (.tmp 20) (.tmp 21) _ _ rfl _ _ rfl rfl _ _ HR.out ?_)
    go_ret
    exact ⟨_, rfl, HB.out, hb⟩
  · obtain rfl : n = 0 := by omega
    go_enter Tryz.func38, Tryz.ntmps38
    go_wp2_with fail
    go_ret
    exact ⟨_, rfl, Buf.nil _ _ _, Below.refl _ _⟩

set_option maxRecDepth 100000 in
set_option maxHeartbeats 1600000 in
theorem concatR_any (b off cap : Nat) (L : List (List RB)) (w : World) (hL : L.flatten.length ≤ 1048576) (hm : L.length ≤ 1048576) (hb0 : 0 < L.length)
    (hc : ∀ k (hk : k < L.length), ∃ p c, w.cell? ⟨b, off + k, none⟩ = some (.slice p L[k].length c) ∧ b < w.heap.size ∧ SrcLo w w.heap.size 2 p L[k].length (L[k].flatMap encB)) :
    Calls Tryz.prog 24 #[.slice (some ⟨b, off, none⟩) L.length cap] w fun e w' => ∃ v, e = .returned v ∧ Buf w' w.heap.size 2 v L.flatten.length (L.flatten.flatMap encB) ∧ Below w.heap.size w w' := by
  have HC := Lib.hid hc
  have HL := Lib.hid hL
  have HN : Hid (∀ k (hk : k < L.length), ∃ l, L[k] = l ∧ flatA L (k + 1) = flatA L k ++ l ∧ (flatA L k).length + l.length ≤ 1048576) := Lib.hid fun k hk =>
    ⟨_, rfl, flatA_next hk, by have := flatA_le L (k + 1); rw [flatA_next hk, List.length_append] at this; omega⟩
  have HZ : Hid (flatA L L.length = L.flatten) := Lib.hid (flatA_all L _ (Nat.le_refl _))
  have hF : ∀ k, Hid ((flatA L k).length ≤ 1048576) := fun k => Lib.hid (by have := flatA_le L k; omega)
  obtain ⟨m, hmm⟩ : ∃ m, m = L.length := ⟨_, rfl⟩
  rw [← hmm]
  have HM := Lib.hid hmm
  have hm1 : m ≤ 1048576 := by omega
  clear hc hL hm hmm hb0
  go_enter Tryz.func24, Tryz.ntmps24
  go_wp2_with fail
  go_loop [3, 11] (fun s i => ∃ k : Nat, k ≤ m ∧ i = .int .i64 (k : Int) ∧ s = .int .i64 ((flatA L k).length : Int)) (fun _ i => m - (intOf i).toNat)
  case atStart => exact ⟨0, Nat.zero_le _, rfl, rfl⟩
  case round =>
    obtain ⟨k, hk, rfl, rfl⟩ := hrel
    by_cases hlt : k < m
    · obtain ⟨p, c, hcell, hbw, _⟩ := HC.out k (by have := HM.out; omega)
      obtain ⟨l, hl, hfl, hsz⟩ := HN.out k (by have := HM.out; omega)
      rw [hl] at hcell
      have e1 : ((flatA L k).length : Int) + (l.length : Int) = ((flatA L (k + 1)).length : Int) := by rw [hfl, List.length_append]; omega
      have HE := Lib.hid e1
      have hi0 : (0 : Int) ≤ k := by omega
      have hi1 : (k : Int) < m := by omega
      clear hl hfl e1
      generalize (flatA L k).length = x at *
      generalize l.length = z at *
      have hx : (x : Int) + z ≤ 1048576 := by omega
      have hx0 : (0 : Int) ≤ (x : Int) + z := by omega
      go_wp2_with fail
      go_round
      case rel => exact ⟨k + 1, by omega, by go_num, by rw [← HE.out]⟩
      case measure => simp [intOf]; omega
    · have hkm : k = m := by omega
      subst hkm
      have e2 : flatA L k = L.flatten := by rw [HM.out]; exact HZ.out
      rw [e2]
      have HG := Lib.hid (fun w => growR_any L.flatten.length HL.out w)
      generalize hnn : L.flatten.length = n at HG
      have HNN := Lib.hid hnn
      go_wp2_with fail
      refine (HG.out w).mono ?_
      rintro e w1 ⟨v, rfl, hbuf, hb1⟩
      go_wp2_with fail
      go_loopw [6, 27] (fun v i wr => ∃ j : Nat, j ≤ k ∧ i = .int .i64 (j : Int) ∧ Buf wr w.heap.size 2 v (flatA L j).length ((flatA L j).flatMap encB) ∧ Below w.heap.size w wr) (fun _ i _ => k - (intOf i).toNat)
      case atStart => exact ⟨0, Nat.zero_le _, rfl, hbuf, hb1⟩
      case round =>
        obtain ⟨j, hj, rfl, hbuf, hb2⟩ := hrel
        by_cases hlt : j < k
        · obtain ⟨p, c, hcell, hbw, hbys⟩ := HC.out j (by have := HM.out; omega)
          obtain ⟨l, hl, hfl, hsz⟩ := HN.out j (by have := HM.out; omega)
          rw [hl] at hcell hbys
          obtain ⟨i0, hi, hz0, hz1, hz2⟩ := info_parts infoR
          obtain ⟨v2, w2, hrun2, hbuf2, hgr, _⟩ := run_append_buf (P := Tryz.prog) wr 22 22 32 i0 (.agg #[.int .u32 0, .int .u32 0]) 2 8 Tryz.underlying22 hi hz0 hz1 hz2 rfl (by decide) w.heap.size _ (flatA L j).length _ hbuf p l.length c _ (hbys.below hb2 (Nat.le_refl _)).src (by unfold maxLen; omega) (by omega) hb2.size
          rw [← List.flatMap_append, ← hfl] at hbuf2
          rw [← List.length_append, ← hfl] at hbuf2
          have hb3 : Below w.heap.size w w2 := hb2.grown hgr hb2.size (fun q hq => by
            rcases hbuf.2 with ⟨rfl, _⟩ | ⟨g, off, c, rfl, hg, _⟩
            · simp [Value.ownBlock] at hq
            · simp only [Value.ownBlock, Option.some.injEq] at hq; omega)
          have hcw : wr.cell? ⟨b, off + j, none⟩ = some (.slice p l.length c) := by rw [hb2.cell (by exact hbw)]; exact hcell
          have HR2 := Lib.hid hrun2
          have HB2 := Lib.hid hbuf2
          have HB3 := Lib.hid hb3
          have hi0 : (0 : Int) ≤ j := by omega
          have hi1 : (j : Int) < k := by omega
          clear hrun2 hbuf2 hb3 hgr hbuf hl hfl hsz hcell hbys hi hb2 hbw
          generalize l.length = z at *
          go_wp2_with (at_builtin; refine wpList_append_run _ rfl (.tmp 31) (.tmp 32) _ _ rfl _ _ rfl rfl _ _ HR2.out ?_)
          go_roundw
          case rel => exact ⟨j + 1, by omega, by go_num, HB2.out, HB3.out⟩
          case measure => simp [intOf]; omega
        · have hjk : j = k := by omega
          subst hjk
          rw [e2] at hbuf
          have HB := Lib.hid hbuf
          have HB2 := Lib.hid hb2
          clear hbuf hb2
          go_wp2_with fail
          go_ret
          exact ⟨_, rfl, HB.out, HB2.out⟩

theorem concatR_two (w : World) (p q : Option Addr) (c d m n : Nat) (l1 l2 : List RB) (hp : SrcLo w w.heap.size 2 p m (l1.flatMap encB)) (hq : SrcLo w w.heap.size 2 q n (l2.flatMap encB)) (hm : m = l1.length) (hn : n = l2.length) (hl : l1.length + l2.length ≤ 1048576) :
    Calls Tryz.prog 24 #[.slice (some ⟨w.heap.size, 0, none⟩) 2 2] (w.alloc (.cells #[.slice p m c, .slice q n d] 22)) fun e w' => ∃ v, e = .returned v ∧ Buf w' w.heap.size 2 v (l1 ++ l2).length ((l1 ++ l2).flatMap encB) ∧ Below w.heap.size w w' := by
  subst hm hn
  have hh := heap_alloc_new w (.cells #[.slice p l1.length c, .slice q l2.length d] 22)
  have hs : (w.alloc (.cells #[.slice p l1.length c, .slice q l2.length d] 22)).heap.size = w.heap.size + 1 := World.size_alloc _ _
  have hb : Below w.heap.size w (w.alloc (.cells #[.slice p l1.length c, .slice q l2.length d] 22)) := (Below.refl _ _).alloc (Nat.le_refl _) _
  have h := concatR_any w.heap.size 0 2 [l1, l2] (w.alloc (.cells #[.slice p l1.length c, .slice q l2.length d] 22)) (by simp; omega) (by simp) (by simp) (fun k hk => by
    match k, hk with
    | 0, _ => exact ⟨p, c, by simp only [World.cell?, hh]; rfl, by omega, (hp.below hb (Nat.le_refl _)).more (by omega)⟩
    | 1, _ => exact ⟨q, d, by simp only [World.cell?, hh]; rfl, by omega, (hq.below hb (Nat.le_refl _)).more (by omega)⟩)
  rw [show [l1, l2].flatten = l1 ++ l2 by simp] at h
  refine h.mono ?_
  rintro e w' ⟨v, rfl, h1, h2⟩
  exact ⟨v, rfl, h1.mono (by omega), hb.trans (h2.mono (by omega))⟩

theorem infoU : (Tryz.prog.info? 30).map (fun i => (i.zero, i.size, i.bytes)) = some (some (.int .u32 0), 1, 4) := by kernel_rfl
theorem growU_run (w : World) (n : Nat) (h0 : 0 < n) (hn : n ≤ 1048576) :
    ∃ g cap w', (Builtin.append_ #[37, 3] 37 #[.slice none 0 0, .int .i64 n]).run Tryz.prog w = .ok (.slice (some ⟨g, 0, none⟩) n cap) w' ∧ n ≤ cap ∧ Buf w' w.heap.size 1 (.slice (some ⟨g, 0, none⟩) 0 cap) 0 [] ∧ Below w.heap.size w w' := by
  obtain ⟨i0, hi, hz0, hz1, hz2⟩ := info_parts infoU
  have hrun := Lib.run_append_nil_zeros (P := Tryz.prog) w 37 3 37 30 i0 (.int .u32 0) .i64 .i64 Tryz.underlying37 Tryz.underlying3 hi hz0 n h0 (by rw [hz1]; decide) (by omega) (by rw [hz2]; omega)
  have hge := grownCap_ge w n 0 30
  obtain ⟨cap, hcap⟩ : ∃ c, grownCap w n 0 30 = c := ⟨_, rfl⟩
  rw [hcap] at hrun hge
  obtain ⟨cs, hcs⟩ : ∃ c, Builtin.zeroCells (Value.cells (.int .u32 0)) n ++ Builtin.zeroCells (Value.cells (.int .u32 0)) (cap - n) = c := ⟨_, rfl⟩
  rw [hcs] at hrun
  have hsz : cs.size = cap * 1 := by
    rw [← hcs]; simp [Builtin.zeroCells, Value.cells]; omega
  have hh := heap_alloc_new w.drew (.cells cs 30)
  refine ⟨_, _, _, hrun, hge, ?_, Below.alloc (Below.drew (Below.refl _ _)) (Nat.le_refl _) _⟩
  refine ⟨rfl, .inr ⟨_, 0, _, rfl, Nat.le_refl _, by rw [World.size_alloc]; show w.heap.size < w.heap.size + 1; omega, Nat.zero_le _, fun j u hj => by simp at hj, fun j hj => ?_⟩⟩
  have hh' : (w.drew.alloc (.cells cs 30)).heap[w.heap.size]? = _ := hh
  refine ⟨?_, ?_⟩
  · simp only [World.cell?, hh', Nat.zero_add]
    rw [Array.getElem?_eq_getElem (by rw [hsz]; omega)]; rfl
  · simp only [World.frozen?, hh', Nat.zero_add]
    simp

end Go.Proofs.YtpcffnhbodjpbaaGreatDoor
