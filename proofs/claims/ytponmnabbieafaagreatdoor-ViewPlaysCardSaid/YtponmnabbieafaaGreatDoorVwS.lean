/- The reference's Apply. The reference's Apply. -/
import Derived.Test.YtponmnabbieafaaGreatDoorVwU
import Derived.Test.YtponmnabbieafaaGreatDoorVwL
import Derived.Test.YtponmnabbieafaaGreatDoorBufO
set_option linter.unusedVariables false
set_option linter.unusedSimpArgs false
namespace Go.Proofs.YtponmnabbieafaaGreatDoor
open Go Go.RowKit Go.Shelf Go.Lib Go.Sort

theorem U32.kept {W W' : World} {B : Nat} {v : Value} {l : List Int} (h : U32 W B v l) (hk : ∀ k, 0 < l.length → k < B → v.ownBlock = some k → W'.heap[k]? = W.heap[k]?) : U32 W' B v l := by
  obtain ⟨A, cap, rfl, h1, h2⟩ := h
  exact ⟨A, cap, rfl, h1, fun h0 => by
    obtain ⟨b, o, rfl, h3, h4⟩ := h2 h0
    exact ⟨b, o, rfl, h3, fun j x hj => (World.cell?_of_block (a := ⟨b, o + j, none⟩) (hk b h0 h3 rfl)).trans (h4 j x hj)⟩⟩
/-- The state of the reference's Apply: the list in v0, the answer in v6, their rows apart. -/
def RS (w W : World) (vv v0 v6 : Value) (l : List Int) (L : List Rp) : Prop := (∀ j, v0.ownBlock = some j → j < W.heap.size ∧ (vv.ownBlock = some j ∨ w.heap.size ≤ j)) ∧ U32 W W.heap.size v0 l ∧ Buf W w.heap.size 10 v6 L.length (L.flatMap rpC) ∧ Below w.heap.size w W ∧ ∀ j, 0 < l.length → v0.ownBlock = some j → v6.ownBlock ≠ some j
theorem RS.below {w W W' : World} {vv v0 v6 : Value} {l : List Int} {L : List Rp} (h : RS w W vv v0 v6 l L) (hb : Below W.heap.size W W') : RS w W' vv v0 v6 l L :=
  ⟨fun j e => ⟨Nat.lt_of_lt_of_le (h.1 j e).1 hb.size, (h.1 j e).2⟩, (h.2.1.below hb (Nat.le_refl _)).mono hb.size, h.2.2.1.below hb (Nat.le_refl _), h.2.2.2.1.trans (hb.mono h.2.2.2.1.size), h.2.2.2.2⟩
theorem RS.list {w W W' : World} {vv v0 v6 v2 : Value} {l l2 : List Int} {L : List Rp} (h : RS w W vv v0 v6 l L) (h2 : B32 W' W.heap.size v2 l2) (hb : Below W.heap.size W W') : RS w W' vv v2 v6 l2 L := by
  obtain ⟨-, -, h3, h4, -⟩ := h.below hb
  refine ⟨fun j e => ⟨own_lt h2 j e, .inr (Nat.le_trans h.2.2.2.1.size (h2.ownGe j e))⟩, U32.of_buf h2, h3, h4, fun j _ e e2 => ?_⟩
  have h5 := h2.ownGe j e
  have h6 := h.2.2.1.ownLt j e2
  omega
/-- 'out = append(out, r)'. -/
theorem RS.push {w W : World} {vv v0 v6 : Value} {l : List Int} {L : List Rp} (h : RS w W vv v0 v6 l L) (r : Rp) (hl : L.length ≤ 1048576) :
    ∃ g1 o1 c1 w', (Builtin.append_ #[29, 29] 29 #[v6, .slice (some ⟨W.heap.size, 0, none⟩) 1 1]).run Tryz.prog (W.alloc (.cells (rpC r).toArray 49)) = .ok (.slice (some ⟨g1, o1, none⟩) (L.length + 1) c1) w' ∧
      RS w w' vv v0 (.slice (some ⟨g1, o1, none⟩) (L.length + 1) c1) l (L ++ [r]) ∧ ∀ k, k < W.heap.size → v6.ownBlock ≠ some k → w'.heap[k]? = W.heap[k]? := by
  obtain ⟨h00, h1, h2, h3, h4⟩ := h
  obtain ⟨i0, hi, hz0, hz1, hz2⟩ : ∃ i, Tryz.prog.info? 49 = some i ∧ i.zero = some (.agg #[.int .i64 0, .int .u32 0, .string ⟨#[]⟩, .int .i64 0, .string ⟨#[]⟩, .int .i64 0, .int .u8 0, .int .u32 0, .int .u32 0, .slice none 0 0]) ∧ i.size = 10 ∧ i.bytes = 104 := by
    have hh := infoRsp
    cases hq : Tryz.prog.info? 49 with
    | none => rw [hq] at hh; cases hh
    | some i =>
      rw [hq] at hh
      simp only [Option.map_some, Option.some.injEq, Prod.mk.injEq] at hh
      exact ⟨i, rfl, hh.1, hh.2.1, hh.2.2⟩
  obtain ⟨v', w', hrun, hb', hgr, hrw⟩ := run_append_buf (P := Tryz.prog) (W.alloc (.cells (rpC r).toArray 49)) 29 29 49 i0 _ 10 104 Tryz.underlying29 hi hz0 hz1 hz2 rfl (by decide) w.heap.size v6 L.length _ (h2.past _) (some ⟨W.heap.size, 0, none⟩) 1 1 (rpC r)
    ⟨rfl, rpC_one r, fun _ => ⟨_, rfl, fun j y hj => by
      rw [Go.WideShapes.add_plain]
      simp only [World.cell?, heap_alloc_new, Nat.zero_add]
      simpa using hj⟩⟩ (by unfold maxLen; omega) (by omega) (by rw [World.size_alloc]; have := h3.size; omega)
  obtain ⟨g1, o1, c1, rfl⟩ : ∃ g1 o1 c1, v' = .slice (some ⟨g1, o1, none⟩) (L.length + 1) c1 := by
    rcases hb'.2 with ⟨_, e⟩ | ⟨g, off, cap, e, _⟩
    · omega
    · exact ⟨g, off, cap, e⟩
  have hold : ∀ k, k < W.heap.size → v6.ownBlock ≠ some k → w'.heap[k]? = W.heap[k]? := fun k hk ho => (hgr.block k (by rw [World.size_alloc]; omega) (fun e => ho e.symm)).trans (Below.heap_alloc W _ k hk)
  have hsz : W.heap.size ≤ w'.heap.size := by have := hgr.size; rw [World.size_alloc] at this; omega
  have hv0 : ∀ k, v0.ownBlock = some k → 0 < l.length → k < W.heap.size := fun k e h0 => by
    obtain ⟨A, cap, rfl, -, h6⟩ := h1
    obtain ⟨b, o, rfl, h7, -⟩ := h6 h0
    simp only [Value.ownBlock, Option.some.injEq] at e
    omega
  refine ⟨g1, o1, c1, w', hrun, ⟨fun j e => ⟨Nat.lt_of_lt_of_le (h00 j e).1 hsz, (h00 j e).2⟩, (h1.kept fun k h0 hk e => hold k hk (h4 k h0 e)).mono hsz, ?_, h3.trans (((Below.refl _ W).alloc h3.size _).grown hgr (by rw [World.size_alloc]; have := h3.size; omega) (fun j e => h2.ownGe j e)), fun j h0 e e2 => ?_⟩, hold⟩
  · rw [List.length_append, List.flatMap_append, show ([r].flatMap rpC) = rpC r by simp]
    exact hb'
  · rcases hrw with e3 | ⟨g, e3, hg⟩
    · exact h4 j h0 e (e3 ▸ e2)
    · rw [e3] at e2
      injection e2 with e2
      rw [World.size_alloc] at hg
      have := hv0 j e h0
      omega
theorem RS.push_cnt {w W : World} {vv v0 v6 : Value} {l : List Int} {L : List Rp} (h : RS w W vv v0 v6 l L) (hl : L.length ≤ 1048576) : ∃ g1 o1 c1 w', (Builtin.append_ #[29, 29] 29 #[v6, .slice (some ⟨W.heap.size, 0, none⟩) 1 1]).run Tryz.prog (W.alloc (.cells #[.int .i64 1, .int .u32 (l.length : Nat), .string ⟨#[]⟩, .int .i64 0, .string ⟨#[]⟩, .int .i64 0, .int .u8 (0 : Nat), .int .u32 0, .int .u32 0, .slice none 0 0] 49)) = .ok (.slice (some ⟨g1, o1, none⟩) (L.length + 1) c1) w' ∧ RS w w' vv v0 (.slice (some ⟨g1, o1, none⟩) (L.length + 1) c1) l (L ++ [cntR l]) ∧ ∀ k, k < W.heap.size → v6.ownBlock ≠ some k → w'.heap[k]? = W.heap[k]? := h.push (cntR l) hl
theorem RS.push_exp {w W : World} {vv v0 v6 : Value} {l : List Int} {L : List Rp} (h : RS w W vv v0 v6 l L) (hl : L.length ≤ 1048576) (p : Nat) : ∃ g1 o1 c1 w', (Builtin.append_ #[29, 29] 29 #[v6, .slice (some ⟨W.heap.size, 0, none⟩) 1 1]).run Tryz.prog (W.alloc (.cells #[.int .i64 3, .int .u32 (p : Nat), .string ⟨#[]⟩, .int .i64 0, .string ⟨#[]⟩, .int .i64 0, .int .u8 (0 : Nat), .int .u32 0, .int .u32 0, .slice none 0 0] 49)) = .ok (.slice (some ⟨g1, o1, none⟩) (L.length + 1) c1) w' ∧ RS w w' vv v0 (.slice (some ⟨g1, o1, none⟩) (L.length + 1) c1) l (L ++ [expR p]) ∧ ∀ k, k < W.heap.size → v6.ownBlock ≠ some k → w'.heap[k]? = W.heap[k]? := h.push (expR p) hl
theorem RS.push_fet {w W : World} {vv v0 v6 : Value} {l : List Int} {L : List Rp} (h : RS w W vv v0 v6 l L) (hl : L.length ≤ 1048576) (p fl : Nat) : ∃ g1 o1 c1 w', (Builtin.append_ #[29, 29] 29 #[v6, .slice (some ⟨W.heap.size, 0, none⟩) 1 1]).run Tryz.prog (W.alloc (.cells #[.int .i64 4, .int .u32 (p : Nat), .string ⟨#[]⟩, .int .i64 0, .string ⟨#[]⟩, .int .i64 1, .int .u8 (fl : Nat), .int .u32 0, .int .u32 0, .slice none 0 0] 49)) = .ok (.slice (some ⟨g1, o1, none⟩) (L.length + 1) c1) w' ∧ RS w w' vv v0 (.slice (some ⟨g1, o1, none⟩) (L.length + 1) c1) l (L ++ [fetR p fl]) ∧ ∀ k, k < W.heap.size → v6.ownBlock ≠ some k → w'.heap[k]? = W.heap[k]? := h.push (fetR p fl) hl

theorem evR_1 (E : List Ev) (k : Nat) (sl : List Int) (sg : Bool) (so : List Rp) (uid fl : Nat) : evR E k ((sl, sg), so) ⟨1, uid, fl⟩ = if (sg || appB sl uid) && lastA E (k + 1) then (((if appB sl uid then sl ++ [(uid : Int)] else sl), false), so ++ [cntR (if appB sl uid then sl ++ [(uid : Int)] else sl)]) else (((if appB sl uid then sl ++ [(uid : Int)] else sl), sg || appB sl uid), so) := by simp [evR]
theorem evR_2 (E : List Ev) (k : Nat) (sl : List Int) (sg : Bool) (so : List Rp) (uid fl : Nat) : evR E k ((sl, sg), so) ⟨2, uid, fl⟩ = ((cutU sl uid, sg), so ++ if 0 < posU sl uid then [expR (posU sl uid)] else []) := by simp [evR, evV]
theorem evR_3 (E : List Ev) (k : Nat) (sl : List Int) (sg : Bool) (so : List Rp) (uid fl : Nat) : evR E k ((sl, sg), so) ⟨3, uid, fl⟩ = ((sl, sg), so ++ if 0 < posU sl uid then [fetR (posU sl uid) fl] else []) := by simp [evR, evV]
theorem evR_n (E : List Ev) (k : Nat) (sl : List Int) (sg : Bool) (so : List Rp) (kd : Int) (uid fl : Nat) (h1 : ¬ kd = 1) (h2 : ¬ kd = 2) (h3 : ¬ kd = 3) : evR E k ((sl, sg), so) ⟨kd, uid, fl⟩ = ((sl, sg), so) := by simp [evR, evV, h1, h2, h3]

theorem rapp_true (x : List Int) (v : Value) (u : Nat) (w : World) (h : U32 w w.heap.size v x) (ha : asc x) (hl : x.length ≤ 1000000) (hy : appB x u = true) :
    Calls Tryz.prog 20 #[v, .int .u32 u] w fun e w' => ∃ v', e = .returned (.tuple #[v', .bool true]) ∧ B32 w' w.heap.size v' (x ++ [(u : Int)]) ∧ Below w.heap.size w w' := by
  obtain ⟨A, cap, rfl, hc1, hc2⟩ := id h
  refine rappend_yes x A x.length cap u w h hl ?_ ?_
  · rintro rfl
    unfold appB at hy
    simp at hy
  · intro z h0 hz
    rw [appB_last ha u (x.length - 1) z (by omega) hz, Bool.and_eq_true, decide_eq_true_eq, decide_eq_true_eq] at hy
    exact hy.2
theorem rapp_false (x : List Int) (v : Value) (u : Nat) (w : World) (h : U32 w w.heap.size v x) (ha : asc x) (hl : x.length ≤ 1000000) (hap : appB x u = false) :
    Calls Tryz.prog 20 #[v, .int .u32 u] w fun e w' => e = .returned (.tuple #[v, .bool false]) ∧ w = w' := by
  obtain ⟨A, cap, rfl, hc1, hc2⟩ := id h
  refine (rappend_no x A x.length cap u w h hl ?_).mono (fun e w' h => ⟨h.1, h.2.symm⟩)
  by_cases hu0 : u = 0
  · exact .inl hu0
  · refine .inr ⟨?_, fun z hz hlt => ?_⟩
    · rcases Nat.eq_zero_or_pos x.length with h0 | h0
      · have : x = [] := List.eq_nil_of_length_eq_zero h0
        subst this
        rw [appB_nil] at hap
        have := of_decide_eq_false hap
        omega
      · exact h0
    · have hxl : 0 < x.length := by
        rcases Nat.eq_zero_or_pos x.length with h0 | h0
        · rw [List.eq_nil_of_length_eq_zero h0] at hz; simp at hz
        · exact h0
      rw [appB_last ha u (x.length - 1) z (by omega) hz] at hap
      simp at hap
      omega
end Go.Proofs.YtponmnabbieafaaGreatDoor

namespace Go.Proofs.YtponmnabbieafaaGreatDoor
open Go Go.RowKit Go.Shelf Go.Lib Go.Sort

set_option maxRecDepth 100000 in
set_option maxHeartbeats 12800000 in
theorem rapply_any (vl : List Int) (E : List Ev) (eb : Nat) (vv ev : Value) (w : World) (hV : U32 w w.heap.size vv vl) (hvo : ∀ j, vv.ownBlock = some j → j < w.heap.size) (hE : EvR w ev E eb) (heb : E.length = 0 ∨ eb < w.heap.size) (ha : asc vl) (hl : vl.length + E.length ≤ 90000) :
    Calls Tryz.prog 9 #[vv, ev] w fun e w' => ∃ v1 v2, e = .returned (.tuple #[v1, v2]) ∧ RS w w' vv v1 v2 (runR vl E E.length).1.1 (runR vl E E.length).2 := by
  obtain ⟨pe, eo, cap, rfl, hpe, hce⟩ := hE
  obtain ⟨m, hm⟩ : ∃ m, E.length = m := ⟨_, rfl⟩
  rw [hm] at hpe hl heb ⊢
  have hmI : (m : Int) ≤ 90000 := by omega
  have HE := Lib.hid (And.intro hm (And.intro hce (And.intro hpe (And.intro heb hl))))
  have HFc : Hid (∀ k, k ≤ m → asc (runR vl E k).1.1 ∧ (runR vl E k).1.1.length ≤ vl.length + k ∧ (runR vl E k).2.length ≤ 2 * k + 1) := Lib.hid (fun k hk => by
    obtain ⟨f1, f2, f3⟩ := runV_facts (s := ((vl, false), [])) ha (E.take k)
    have h2 : (E.take k).length ≤ k := List.length_take_le _ _
    rw [runs_same vl E k (by omega)]
    refine ⟨f1, by dsimp only at f2 ⊢; omega, ?_⟩
    dsimp only at f3 ⊢
    rw [List.length_append]
    simp only [List.length_nil] at f3
    split <;> simp <;> omega)
  have HV := Lib.hid (And.intro hV hvo)
  clear hm hce hpe heb hl ha hV hvo
  go_enter Tryz.func9, Tryz.ntmps9
  go_wp2_with fail
  go_loopw [0, 6, 7, 8] (fun s0 s6 s7 i wr => ∃ (k : Nat) (s : VSt) (v0 v6 : Value), k ≤ m ∧ v0 = s0 ∧ v6 = s6 ∧ runR vl E k = s ∧ RS w wr vv v0 v6 s.1.1 s.2 ∧ s7 = .bool s.1.2 ∧ i = .int .i64 k) (fun _ _ _ i _ => m - (intOf i).toNat)
  case atStart => exact ⟨0, ((vl, false), []), _, _, Nat.zero_le _, rfl, rfl, rfl, ⟨fun j h => ⟨HV.out.2 j h, .inl h⟩, HV.out.1, Buf.nil _ _ _, Below.refl _ _, fun _ _ _ e => by cases e⟩, rfl, rfl⟩
  case round =>
    obtain ⟨k, s, v0, v6, hk, rfl, rfl, hs, hrs, rfl, rfl⟩ := hrel
    have hkI : (k : Int) ≤ m := by omega
    obtain ⟨hfa, hfl, hfo⟩ := HFc.out k hk
    rw [hs] at hfa hfl hfo
    have hml := HE.out.2.2.2.2
    obtain ⟨⟨sl, sg⟩, so⟩ := s
    dsimp only at hrs hfa hfl hfo
    by_cases hlt : k < m
    · have hltI : (k : Int) < m := by omega
      have hkl : k < E.length := by have := HE.out.1; omega
      have hpe := HE.out.2.2.1 (by omega)
      subst hpe
      have heb := HE.out.2.2.2.1.resolve_left (by omega)
      obtain ⟨q0, q1, q2⟩ := HE.out.2.1 k hkl
      have c0 : wr.cell? ⟨eb, eo + k * 3, none⟩ = some (.int .i64 E[k].kind) := (hrs.2.2.2.1.cell (p := ⟨eb, eo + k * 3, none⟩) heb).trans q0
      have c1 : wr.cell? ⟨eb, eo + k * 3 + 1, none⟩ = some (.int .u32 (E[k].uid : Nat)) := (hrs.2.2.2.1.cell (p := ⟨eb, eo + k * 3 + 1, none⟩) heb).trans q1
      have c2 : wr.cell? ⟨eb, eo + k * 3 + 2, none⟩ = some (.int .u8 (E[k].fl : Nat)) := (hrs.2.2.2.1.cell (p := ⟨eb, eo + k * 3 + 2, none⟩) heb).trans q2
      have hnx := runR_next vl E hkl
      rw [hs] at hnx
      rcases hek : E[k] with ⟨kd, uid, fle⟩
      rw [hek] at c0 c1 c2 hnx
      obtain ⟨Av, cv, rfl, -, -⟩ := id hrs.2.1
      have hbx : Below wr.heap.size wr (wr.alloc (.cells #[.int .i64 kd, .int .u32 (uid : Nat), .int .u8 (fle : Nat)] 46)) := (Below.refl _ _).alloc (Nat.le_refl _) _
      have hv1 := hrs.below hbx
      have HP := Lib.hid (rpos_any sl (uid : Nat) _ _ hv1.2.1 hfa (by omega))
      have HX := Lib.hid (And.intro hnx (And.intro hfa (And.intro hfl (And.intro hfo (And.intro hml (And.intro heb (fun j (e : v6.ownBlock = some j) => hrs.2.2.1.ownLt j e)))))))
      have hbk : Blk (wr.alloc (.cells #[.int .i64 kd, .int .u32 (uid : Nat), .int .u8 (fle : Nat)] 46)) wr.heap.size 46 #[.int .i64 kd, .int .u32 (uid : Nat), .int .u8 (fle : Nat)] := Blk.made _ _ _
      have HB0 := Lib.hid (And.intro hv1 hbk)
      clear hnx hfa hfl hfo hml hek q0 q1 q2 heb hs hrs hbx hv1 hbk
      go_wp2_with fail
      refine HP.out.mono ?_
      rintro e w1 ⟨rfl, rfl⟩
      obtain ⟨p, hp⟩ : ∃ p, posU sl uid = p := ⟨_, rfl⟩
      have hpl := posU_len sl uid
      rw [hp] at hpl ⊢
      have HPP := Lib.hid hp
      clear hp
      have hpw : IntKind.u32.wrap (p : Int) = p := by have := HX.out.2.2.1; have := HX.out.2.2.2.2.1; show (p : Int) % 4294967296 = p; omega
      obtain ⟨W1, hW1⟩ : ∃ W1, wr.alloc (.cells #[.int .i64 kd, .int .u32 (uid : Nat), .int .u8 (fle : Nat)] 46) = W1 := ⟨_, rfl⟩
      have HB1 : Hid (RS w W1 vv (.slice Av sl.length cv) v6 sl so ∧ Blk W1 wr.heap.size 46 #[.int .i64 kd, .int .u32 (uid : Nat), .int .u8 (fle : Nat)]) := Lib.hid (by rw [← hW1]; exact HB0.out)
      rw [hW1]
      clear hW1 HB0
      have b0 := HB1.out.2.cell 0
      have b1 := HB1.out.2.cell 1
      have b2 := HB1.out.2.cell 2
      have x0 : W1.cell? ⟨wr.heap.size, 0, none⟩ = some (.int .i64 kd) := b0
      have x1 : W1.cell? ⟨wr.heap.size, 1, none⟩ = some (.int .u32 (uid : Nat)) := b1
      have x2 : W1.cell? ⟨wr.heap.size, 2, none⟩ = some (.int .u8 (fle : Nat)) := b2
      clear b0 b1 b2 c0 c1 c2
      by_cases e1 : kd = 1
      · subst e1
        cases hap : appB sl uid with
        | false =>
          have HA := Lib.hid (rapp_false sl _ uid W1 HB1.out.1.2.1 HX.out.2.1 (by have := HX.out.2.2.1; have := HX.out.2.2.2.2.1; omega) hap)
          cases sg with
          | false =>
            have HAP := Lib.hid hap
            clear hap
            go_wp2_with fail
            refine HA.out.mono ?_
            rintro e w2 ⟨rfl, rfl⟩
            go_wp2_with fail
            go_roundw
            case rel =>
              refine ⟨k + 1, _, _, v6, by omega, rfl, rfl, HX.out.1, ?_, ?_, by go_num⟩
              · rw [evR_1, HAP.out]; exact HB1.out.1
              · rw [evR_1, HAP.out]; rfl
            case measure => simp [intOf]; omega
          | true =>
            have EV : Hid (evR E k ((sl, true), so) ⟨1, uid, fle⟩ = if lastA E (k + 1) then ((sl, false), so ++ [cntR sl]) else ((sl, true), so)) := Lib.hid (by rw [evR_1, hap]; simp)
            have HLL : Hid (sl.length ≤ sl.length + 1) := Lib.hid (by omega)
            clear hap
            go_wp2_with fail
            refine HA.out.mono ?_
            rintro e w2 ⟨rfl, rfl⟩
            by_cases hq : k + 1 = m
            · have hqI : (k : Int) + 1 = m := by omega
              have hla : lastA E (k + 1) = true := by unfold lastA; rw [List.getElem?_eq_none (by have := HE.out.1; omega)]
              have HLA := Lib.hid hla
              clear hla
              obtain ⟨g5, o5, c5, w5, hrun, hr5, hk5⟩ := HB1.out.1.push_cnt (by have := HX.out.2.2.2.1; have := HX.out.2.2.2.2.1; omega)
              have HR := Lib.hid hrun
              have H5 := Lib.hid hr5
              clear hrun hr5 hk5
              have hlw : IntKind.u32.wrap (sl.length : Int) = sl.length := by have := HX.out.2.2.1; have := HX.out.2.2.2.2.1; have := HLL.out; show (sl.length : Int) % 4294967296 = _; omega
              go_wp2_with (at_builtin; refine wpList_append_run _ rfl (.tmp 60) (.tmp 65) _ _ rfl _ _ rfl rfl _ _ HR.out ?_)
              go_roundw
              case rel =>
                refine ⟨k + 1, _, _, _, by omega, rfl, rfl, HX.out.1, ?_, ?_, by go_num⟩
                · rw [EV.out, if_pos (by rw [HLA.out])]; exact H5.out
                · rw [EV.out, if_pos (by rw [HLA.out])]
              case measure => simp [intOf]; omega
            · have hqI : ¬ ((k : Int) + 1 = m) := by omega
              have hqb : ((k : Int) + 1 == (m : Int)) = false := by simpa using hqI
              have hq1 : (k : Int) + 1 < m := by omega
              have hq2 : k + 1 < m := by omega
              have hkl1 : k + 1 < E.length := by have := HE.out.1; omega
              obtain ⟨q0, -, -⟩ := HE.out.2.1 (k + 1) hkl1
              have z0 : W1.cell? ⟨eb, eo + (k + 1) * 3, none⟩ = some (.int .i64 E[k + 1].kind) := (HB1.out.1.2.2.2.1.cell (p := ⟨eb, eo + (k + 1) * 3, none⟩) HX.out.2.2.2.2.2.1).trans q0
              have hla : lastA E (k + 1) = decide (E[k + 1].kind ≠ 1) := by unfold lastA; rw [List.getElem?_eq_getElem hkl1]
              clear q0
              obtain ⟨k2, hk2⟩ : ∃ k2, E[k + 1].kind = k2 := ⟨_, rfl⟩
              rw [hk2] at z0 hla
              clear hk2
              have HLA := Lib.hid hla
              clear hla
              by_cases e4 : k2 = 1
              · subst e4
                go_wp2_with fail
                go_roundw
                case rel =>
                  refine ⟨k + 1, _, _, v6, by omega, rfl, rfl, HX.out.1, ?_, ?_, by go_num⟩
                  · rw [EV.out, if_neg (by rw [HLA.out]; simp)]; exact HB1.out.1
                  · rw [EV.out, if_neg (by rw [HLA.out]; simp)]
                case measure => simp [intOf]; omega
              · have e4b : (k2 != 1) = true := by simpa using e4
                have e4c : (k2 == 1) = false := by simpa using e4
                have hlt1 : lastA E (k + 1) = true := by rw [HLA.out]; simpa using e4
                have HLT := Lib.hid hlt1
                clear hlt1
                obtain ⟨g5, o5, c5, w5, hrun, hr5, hk5⟩ := HB1.out.1.push_cnt (by have := HX.out.2.2.2.1; have := HX.out.2.2.2.2.1; omega)
                have HR := Lib.hid hrun
                have H5 := Lib.hid hr5
                clear hrun hr5 hk5
                have hlw : IntKind.u32.wrap (sl.length : Int) = sl.length := by have := HX.out.2.2.1; have := HX.out.2.2.2.2.1; have := HLL.out; show (sl.length : Int) % 4294967296 = _; omega
                go_wp2_with (at_builtin; refine wpList_append_run _ rfl (.tmp 60) (.tmp 65) _ _ rfl _ _ rfl rfl _ _ HR.out ?_)
                go_roundw
                case rel =>
                  refine ⟨k + 1, _, _, _, by omega, rfl, rfl, HX.out.1, ?_, ?_, by go_num⟩
                  · rw [EV.out, if_pos (by rw [HLT.out])]; exact H5.out
                  · rw [EV.out, if_pos (by rw [HLT.out])]
                case measure => simp [intOf]; omega
        | true =>
          have HA := Lib.hid (rapp_true sl _ uid W1 HB1.out.1.2.1 HX.out.2.1 (by have := HX.out.2.2.1; have := HX.out.2.2.2.2.1; omega) hap)
          obtain ⟨l2, hl2⟩ : ∃ l2, sl ++ [(uid : Int)] = l2 := ⟨_, rfl⟩
          rw [hl2] at HA
          have HLL : Hid (l2.length ≤ sl.length + 1) := Lib.hid (by rw [← hl2]; simp)
          have EV : Hid (evR E k ((sl, sg), so) ⟨1, uid, fle⟩ = if lastA E (k + 1) then ((l2, false), so ++ [cntR l2]) else ((l2, true), so)) := Lib.hid (by rw [evR_1, hap]; simp [hl2])
          clear hap hl2
          cases sg with
          | false =>
            go_wp2_with fail
            refine HA.out.mono ?_
            rintro e w2 ⟨v2, rfl, hv2, hbl2⟩
            have hrs2 : RS w w2 vv v2 v6 l2 so := HB1.out.1.list hv2 hbl2
            obtain ⟨A2, cp2, rfl, -, -⟩ := id hrs2.2.1
            have H2 := Lib.hid hrs2
            clear hrs2 hv2 hbl2
            by_cases hq : k + 1 = m
            · have hqI : (k : Int) + 1 = m := by omega
              have hla : lastA E (k + 1) = true := by unfold lastA; rw [List.getElem?_eq_none (by have := HE.out.1; omega)]
              have HLA := Lib.hid hla
              clear hla
              obtain ⟨g5, o5, c5, w5, hrun, hr5, hk5⟩ := H2.out.push_cnt (by have := HX.out.2.2.2.1; have := HX.out.2.2.2.2.1; omega)
              have HR := Lib.hid hrun
              have H5 := Lib.hid hr5
              clear hrun hr5 hk5
              have hlw : IntKind.u32.wrap (l2.length : Int) = l2.length := by have := HX.out.2.2.1; have := HX.out.2.2.2.2.1; have := HLL.out; show (l2.length : Int) % 4294967296 = _; omega
              go_wp2_with (at_builtin; refine wpList_append_run _ rfl (.tmp 60) (.tmp 65) _ _ rfl _ _ rfl rfl _ _ HR.out ?_)
              go_roundw
              case rel =>
                refine ⟨k + 1, _, _, _, by omega, rfl, rfl, HX.out.1, ?_, ?_, by go_num⟩
                · rw [EV.out, if_pos (by rw [HLA.out])]; exact H5.out
                · rw [EV.out, if_pos (by rw [HLA.out])]
              case measure => simp [intOf]; omega
            · have hqI : ¬ ((k : Int) + 1 = m) := by omega
              have hqb : ((k : Int) + 1 == (m : Int)) = false := by simpa using hqI
              have hq1 : (k : Int) + 1 < m := by omega
              have hq2 : k + 1 < m := by omega
              have hkl1 : k + 1 < E.length := by have := HE.out.1; omega
              obtain ⟨q0, -, -⟩ := HE.out.2.1 (k + 1) hkl1
              have z0 : w2.cell? ⟨eb, eo + (k + 1) * 3, none⟩ = some (.int .i64 E[k + 1].kind) := (H2.out.2.2.2.1.cell (p := ⟨eb, eo + (k + 1) * 3, none⟩) HX.out.2.2.2.2.2.1).trans q0
              have hla : lastA E (k + 1) = decide (E[k + 1].kind ≠ 1) := by unfold lastA; rw [List.getElem?_eq_getElem hkl1]
              clear q0
              obtain ⟨k2, hk2⟩ : ∃ k2, E[k + 1].kind = k2 := ⟨_, rfl⟩
              rw [hk2] at z0 hla
              clear hk2
              have HLA := Lib.hid hla
              clear hla
              by_cases e4 : k2 = 1
              · subst e4
                go_wp2_with fail
                go_roundw
                case rel =>
                  refine ⟨k + 1, _, _, v6, by omega, rfl, rfl, HX.out.1, ?_, ?_, by go_num⟩
                  · rw [EV.out, if_neg (by rw [HLA.out]; simp)]; exact H2.out
                  · rw [EV.out, if_neg (by rw [HLA.out]; simp)]
                case measure => simp [intOf]; omega
              · have e4b : (k2 != 1) = true := by simpa using e4
                have e4c : (k2 == 1) = false := by simpa using e4
                have hlt1 : lastA E (k + 1) = true := by rw [HLA.out]; simpa using e4
                have HLT := Lib.hid hlt1
                clear hlt1
                obtain ⟨g5, o5, c5, w5, hrun, hr5, hk5⟩ := H2.out.push_cnt (by have := HX.out.2.2.2.1; have := HX.out.2.2.2.2.1; omega)
                have HR := Lib.hid hrun
                have H5 := Lib.hid hr5
                clear hrun hr5 hk5
                have hlw : IntKind.u32.wrap (l2.length : Int) = l2.length := by have := HX.out.2.2.1; have := HX.out.2.2.2.2.1; have := HLL.out; show (l2.length : Int) % 4294967296 = _; omega
                go_wp2_with (at_builtin; refine wpList_append_run _ rfl (.tmp 60) (.tmp 65) _ _ rfl _ _ rfl rfl _ _ HR.out ?_)
                go_roundw
                case rel =>
                  refine ⟨k + 1, _, _, _, by omega, rfl, rfl, HX.out.1, ?_, ?_, by go_num⟩
                  · rw [EV.out, if_pos (by rw [HLT.out])]; exact H5.out
                  · rw [EV.out, if_pos (by rw [HLT.out])]
                case measure => simp [intOf]; omega
          | true =>
            go_wp2_with fail
            refine HA.out.mono ?_
            rintro e w2 ⟨v2, rfl, hv2, hbl2⟩
            have hrs2 : RS w w2 vv v2 v6 l2 so := HB1.out.1.list hv2 hbl2
            obtain ⟨A2, cp2, rfl, -, -⟩ := id hrs2.2.1
            have H2 := Lib.hid hrs2
            clear hrs2 hv2 hbl2
            by_cases hq : k + 1 = m
            · have hqI : (k : Int) + 1 = m := by omega
              have hla : lastA E (k + 1) = true := by unfold lastA; rw [List.getElem?_eq_none (by have := HE.out.1; omega)]
              have HLA := Lib.hid hla
              clear hla
              obtain ⟨g5, o5, c5, w5, hrun, hr5, hk5⟩ := H2.out.push_cnt (by have := HX.out.2.2.2.1; have := HX.out.2.2.2.2.1; omega)
              have HR := Lib.hid hrun
              have H5 := Lib.hid hr5
              clear hrun hr5 hk5
              have hlw : IntKind.u32.wrap (l2.length : Int) = l2.length := by have := HX.out.2.2.1; have := HX.out.2.2.2.2.1; have := HLL.out; show (l2.length : Int) % 4294967296 = _; omega
              go_wp2_with (at_builtin; refine wpList_append_run _ rfl (.tmp 60) (.tmp 65) _ _ rfl _ _ rfl rfl _ _ HR.out ?_)
              go_roundw
              case rel =>
                refine ⟨k + 1, _, _, _, by omega, rfl, rfl, HX.out.1, ?_, ?_, by go_num⟩
                · rw [EV.out, if_pos (by rw [HLA.out])]; exact H5.out
                · rw [EV.out, if_pos (by rw [HLA.out])]
              case measure => simp [intOf]; omega
            · have hqI : ¬ ((k : Int) + 1 = m) := by omega
              have hqb : ((k : Int) + 1 == (m : Int)) = false := by simpa using hqI
              have hq1 : (k : Int) + 1 < m := by omega
              have hq2 : k + 1 < m := by omega
              have hkl1 : k + 1 < E.length := by have := HE.out.1; omega
              obtain ⟨q0, -, -⟩ := HE.out.2.1 (k + 1) hkl1
              have z0 : w2.cell? ⟨eb, eo + (k + 1) * 3, none⟩ = some (.int .i64 E[k + 1].kind) := (H2.out.2.2.2.1.cell (p := ⟨eb, eo + (k + 1) * 3, none⟩) HX.out.2.2.2.2.2.1).trans q0
              have hla : lastA E (k + 1) = decide (E[k + 1].kind ≠ 1) := by unfold lastA; rw [List.getElem?_eq_getElem hkl1]
              clear q0
              obtain ⟨k2, hk2⟩ : ∃ k2, E[k + 1].kind = k2 := ⟨_, rfl⟩
              rw [hk2] at z0 hla
              clear hk2
              have HLA := Lib.hid hla
              clear hla
              by_cases e4 : k2 = 1
              · subst e4
                go_wp2_with fail
                go_roundw
                case rel =>
                  refine ⟨k + 1, _, _, v6, by omega, rfl, rfl, HX.out.1, ?_, ?_, by go_num⟩
                  · rw [EV.out, if_neg (by rw [HLA.out]; simp)]; exact H2.out
                  · rw [EV.out, if_neg (by rw [HLA.out]; simp)]
                case measure => simp [intOf]; omega
              · have e4b : (k2 != 1) = true := by simpa using e4
                have e4c : (k2 == 1) = false := by simpa using e4
                have hlt1 : lastA E (k + 1) = true := by rw [HLA.out]; simpa using e4
                have HLT := Lib.hid hlt1
                clear hlt1
                obtain ⟨g5, o5, c5, w5, hrun, hr5, hk5⟩ := H2.out.push_cnt (by have := HX.out.2.2.2.1; have := HX.out.2.2.2.2.1; omega)
                have HR := Lib.hid hrun
                have H5 := Lib.hid hr5
                clear hrun hr5 hk5
                have hlw : IntKind.u32.wrap (l2.length : Int) = l2.length := by have := HX.out.2.2.1; have := HX.out.2.2.2.2.1; have := HLL.out; show (l2.length : Int) % 4294967296 = _; omega
                go_wp2_with (at_builtin; refine wpList_append_run _ rfl (.tmp 60) (.tmp 65) _ _ rfl _ _ rfl rfl _ _ HR.out ?_)
                go_roundw
                case rel =>
                  refine ⟨k + 1, _, _, _, by omega, rfl, rfl, HX.out.1, ?_, ?_, by go_num⟩
                  · rw [EV.out, if_pos (by rw [HLT.out])]; exact H5.out
                  · rw [EV.out, if_pos (by rw [HLT.out])]
                case measure => simp [intOf]; omega
      by_cases e2 : kd = 2
      · subst e2
        by_cases hp0 : 0 < p
        · have hpI : (0 : Int) < p := by omega
          have hpd : decide ((0 : Int) < (p : Int)) = true := decide_eq_true hpI
          have hpn : decide (0 < p) = true := decide_eq_true hp0
          have HRm := Lib.hid (rremove_any sl (uid : Nat) _ _ HB1.out.1.2.1 (by have := HX.out.2.2.1; have := HX.out.2.2.2.2.1; omega))
          go_wp2_with fail
          refine HRm.out.mono ?_
          rintro e w2 ⟨v2, rfl, hv2, hbl2⟩
          have hrs2 : RS w w2 vv v2 v6 (cutU sl uid) so := by rw [cut_filter HX.out.2.1]; exact HB1.out.1.list hv2 hbl2
          obtain ⟨g5, o5, c5, w5, hrun, hr5, hk5⟩ := hrs2.push_exp (by have := HX.out.2.2.2.1; have := HX.out.2.2.2.2.1; omega) p
          have HR := Lib.hid hrun
          have H5 := Lib.hid hr5
          clear hrun hr5 hk5 hrs2 hv2 hbl2
          go_wp2_with (at_builtin; refine wpList_append_run _ rfl (.tmp 75) (.tmp 79) _ _ rfl _ _ rfl rfl _ _ HR.out ?_)
          go_roundw
          case rel =>
            refine ⟨k + 1, _, v2, _, by omega, rfl, rfl, HX.out.1, ?_, ?_, by go_num⟩
            · rw [evR_2, HPP.out, if_pos hp0]; exact H5.out
            · rw [evR_2]
          case measure => simp [intOf]; omega
        · have hpI : ¬ ((0 : Int) < p) := by omega
          have hpd : decide ((0 : Int) < (p : Int)) = false := decide_eq_false hpI
          have hpn : decide (0 < p) = false := decide_eq_false hp0
          go_wp2_with fail
          go_roundw
          case rel =>
            refine ⟨k + 1, _, _, v6, by omega, rfl, rfl, HX.out.1, ?_, ?_, by go_num⟩
            · rw [evR_2, HPP.out, if_neg hp0, List.append_nil]; unfold cutU; rw [HPP.out, if_neg hp0]; exact HB1.out.1
            · rw [evR_2]
          case measure => simp [intOf]; omega
      by_cases e3 : kd = 3
      · subst e3
        by_cases hp0 : 0 < p
        · have hpI : (0 : Int) < p := by omega
          have hpd : decide ((0 : Int) < (p : Int)) = true := decide_eq_true hpI
          have hpn : decide (0 < p) = true := decide_eq_true hp0
          obtain ⟨g5, o5, c5, w5, hrun, hr5, hk5⟩ := HB1.out.1.push_fet (by have := HX.out.2.2.2.1; have := HX.out.2.2.2.2.1; omega) p fle
          have HR := Lib.hid hrun
          have H5 := Lib.hid hr5
          clear hrun hr5 hk5
          go_wp2_with (at_builtin; refine wpList_append_run _ rfl (.tmp 85) (.tmp 91) _ _ rfl _ _ rfl rfl _ _ HR.out ?_)
          go_roundw
          case rel =>
            refine ⟨k + 1, _, _, _, by omega, rfl, rfl, HX.out.1, ?_, ?_, by go_num⟩
            · rw [evR_3, HPP.out, if_pos hp0]; exact H5.out
            · rw [evR_3]
          case measure => simp [intOf]; omega
        · have hpI : ¬ ((0 : Int) < p) := by omega
          have hpd : decide ((0 : Int) < (p : Int)) = false := decide_eq_false hpI
          have hpn : decide (0 < p) = false := decide_eq_false hp0
          go_wp2_with fail
          go_roundw
          case rel =>
            refine ⟨k + 1, _, _, v6, by omega, rfl, rfl, HX.out.1, ?_, ?_, by go_num⟩
            · rw [evR_3, HPP.out, if_neg hp0, List.append_nil]; exact HB1.out.1
            · rw [evR_3]
          case measure => simp [intOf]; omega
      have b1 : (kd == 1) = false := by simpa using e1
      have b2 : (kd == 2) = false := by simpa using e2
      have b3 : (kd == 3) = false := by simpa using e3
      go_wp2_with fail
      go_roundw
      case rel =>
        refine ⟨k + 1, _, _, v6, by omega, rfl, rfl, HX.out.1, ?_, ?_, by go_num⟩
        · rw [evR_n _ _ _ _ _ _ _ _ e1 e2 e3]; exact HB1.out.1
        · rw [evR_n _ _ _ _ _ _ _ _ e1 e2 e3]
      case measure => simp [intOf]; omega
    · obtain rfl : k = m := by omega
      have HF := Lib.hid hrs
      clear hrs
      go_wp2_with fail
      go_ret2
      refine ⟨v0, v6, rfl, ?_⟩
      rw [hs]
      exact HF.out
end Go.Proofs.YtponmnabbieafaaGreatDoor
