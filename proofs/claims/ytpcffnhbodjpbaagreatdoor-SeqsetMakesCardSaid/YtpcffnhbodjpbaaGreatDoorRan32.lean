/- slices.Sorted over slices.Values at unsigned numbers. -/
import Derived.Test.YtpcffnhbodjpbaaGreatDoorGrow
import Derived.Test.YtpcffnhbodjpbaaGreatDoorRanSt
import Derived.Test.YtpcffnhbodjpbaaGreatDoorBufO
import Derived.RangeFuncBox
import Derived.OwnWalkIn
import Derived.Deep.RegionHeld3
import Derived.Stop.RegionWithIn
import Derived.TacticsInMore
import Derived.LoopNIn
import Derived.LoopIn
import Derived.Shelf.Abstract
import Derived.Shelf.RegionOpen
set_option linter.unusedVariables false
set_option linter.unusedSimpArgs false
namespace Go.Proofs.YtpcffnhbodjpbaaGreatDoor
open Go Go.RowKit Go.Shelf
attribute [local go_sem] Oper.semAt_some

theorem wpListIn_append_run {F : Fence} {n : Nat} {P : Program} (w : World) {ops : Array Oper} {rest : List Oper} {o : Oper} {a : Act} {Q : Exit → Act → World → Prop} (hgd : o.guard = none) (d s : Operand) (dT sT : TypeId)
    (ho : o.op = .call { callee := .builtin .append, args := #[d, s], argTypes := #[dT, sT] }) (x y : Value) (hx : a.eval d = x) (hy : a.eval s = y) (v : Value) (w' : World)
    (hrun : (Builtin.append_ #[dT, sT] o.type #[x, y]).run P w = .ok v w') (h : wpListIn F n P ops Q rest (a.put o.dst v) w') : wpListIn F n P ops Q (o :: rest) a w := by
  refine wpListIn_plain hgd fun K hK' => ?_
  unfold Oper.wpIn
  refine ⟨?_, ?_⟩
  · simp [Oper.about, ho, resolve, Target.leads, Sem.run_pure]
  · rw [Oper.semAt_plain F _ _ (by rw [ho]; intro c hc'; cases hc')]
    simp [execOp, ho, resolve, invoke, builtin, hx, hy, hrun, Result.andThen]
    exact hK' _ _ h

/-- The slice value v reads as the list l, in a block below B. -/
def U32 (W : World) (B : Nat) (v : Value) (l : List Int) : Prop :=
  ∃ A cap, v = .slice A l.length cap ∧ l.length ≤ cap ∧ (0 < l.length → ∃ b o, A = some ⟨b, o, none⟩ ∧ b < B ∧ ∀ j x, l[j]? = some x → W.cell? ⟨b, o + j, none⟩ = some (.int .u32 x))
theorem U32.below {W W' : World} {B n : Nat} {v : Value} {l : List Int} (h : U32 W B v l) (hb : Below n W W') (hn : B ≤ n) : U32 W' B v l := by
  obtain ⟨A, cap, e, h1, h2⟩ := h
  exact ⟨A, cap, e, h1, fun h0 => by
    obtain ⟨b, o, e2, h3, h4⟩ := h2 h0
    exact ⟨b, o, e2, h3, fun j x hj => (hb.cell (p := ⟨b, o + j, none⟩) (Nat.lt_of_lt_of_le h3 hn)).trans (h4 j x hj)⟩⟩
theorem U32.mono {W : World} {B B' : Nat} {v : Value} {l : List Int} (h : U32 W B v l) (hB : B ≤ B') : U32 W B' v l := by
  obtain ⟨A, cap, e, h1, h2⟩ := h
  exact ⟨A, cap, e, h1, fun h0 => by
    obtain ⟨b, o, e2, h3, h4⟩ := h2 h0
    exact ⟨b, o, e2, by omega, h4⟩⟩
theorem U32.of_buf {W : World} {base : Nat} {v : Value} {l : List Int} (h : Buf W base 1 v l.length (l.map (Value.int .u32))) : U32 W W.heap.size v l := by
  rcases h.2 with ⟨rfl, h0⟩ | ⟨g, off, cap, rfl, h1, h2, h3, h4, -⟩
  · exact ⟨none, 0, by rw [h0], by omega, fun h => by omega⟩
  · exact ⟨_, cap, rfl, h3, fun _ => ⟨g, off, rfl, h2, fun j x hj => h4 j _ (by rw [List.getElem?_map, hj]; rfl)⟩⟩

/-- AppendSeq between two rounds: k elements have come. -/
structure VJ (s0 : Nat) (w : World) (zs : List Int) (k : Nat) (W : World) : Prop where
  box : ∃ v, Boxed W s0 37 v ∧ W.ownsRow s0 30 1 v k ((zs.take k).map (Value.int .u32)) ∧ (v = .slice none 0 0 ↔ k = 0)
  low : Below s0 w W
section
variable {s0 k : Nat} {w W : World} {zs : List Int}
theorem VJ.put (h : VJ s0 w zs k W) {l : Nat} {o : Obj} (o' : Obj) (hl : s0 ≤ l) (hh : W.heap[l]? = some o) (ho : o.isCells = false) : VJ s0 w zs k (W.putObj l o') := by
  obtain ⟨⟨v, hv, hr, hn⟩, hb⟩ := h
  refine ⟨⟨v, hv.kept (grownBy_putObj' W l o') (fun e => ?_), ownsRow_putObj hr o' hh ho, hn⟩, hb.grown (grownBy_putObj' W l o') (Nat.le_of_lt hv.lt) (fun k e => by injection e with e; omega)⟩
  injection e with e
  subst e
  rw [show W.heap[s0]? = _ from hv] at hh
  injection hh with hh
  subst hh
  cases ho
theorem VJ.alloc (h : VJ s0 w zs k W) (o : Obj) : VJ s0 w zs k (W.alloc o) := by
  obtain ⟨⟨v, hv, hr, hn⟩, hb⟩ := h
  exact ⟨⟨v, hv.alloc o, hr.alloc o, hn⟩, hb.alloc (Nat.le_of_lt hv.lt) o⟩
theorem infoU32 : (Tryz.prog.info? 30).map (fun i => (i.zero, i.size, i.bytes)) = some (some (.int .u32 0), 1, 4) := by kernel_rfl
theorem VJ.push {x : Int} (h : VJ s0 w zs k W) (hx : zs[k]? = some x) (hz : zs.length ≤ 1048576) : ∃ v g cap w', Boxed W s0 37 v ∧
    (Builtin.append_ #[37, 37] 37 #[v, .slice (some ⟨W.heap.size, 0, none⟩) 1 1]).run Tryz.prog (W.alloc (.cells #[.int .u32 x] 30)) = .ok (.slice (some ⟨g, 0, none⟩) (k + 1) cap) w' ∧
    Boxed w' s0 37 v ∧ VJ s0 w zs (k + 1) (w'.setCell ⟨s0, 0, none⟩ (.slice (some ⟨g, 0, none⟩) (k + 1) cap)) ∧ KeepsOthers W (w'.setCell ⟨s0, 0, none⟩ (.slice (some ⟨g, 0, none⟩) (k + 1) cap)) := by
  obtain ⟨⟨v, hv, hr, hn⟩, hb⟩ := h
  obtain ⟨i0, hi, hz0, hz1, hz2⟩ := info_parts infoU32
  have hk : k < zs.length := (List.getElem?_eq_some_iff.1 hx).1
  have hlt := hv.lt
  obtain ⟨v', w', hrun, hown, hgr, -⟩ := run_append_own (P := Tryz.prog) (W.alloc (.cells #[.int .u32 x] 30)) s0 37 37 30 i0 _ 1 4 Tryz.underlying37 hi hz0 hz1 hz2 rfl (by decide) v k _ (hr.alloc _) ⟨W.heap.size, 0, none⟩ 1 1 [.int .u32 x]
    rfl (fun j u hj => by
      rw [Go.WideShapes.add_plain]
      simp only [World.cell?, heap_alloc_new, Nat.zero_add]
      simpa using hj) (fun u hu => by simp at hu; subst hu; rfl) (by unfold maxLen; omega) (by omega) (by rw [World.size_alloc]; omega)
  obtain ⟨g, cap, rfl⟩ := ownsRow_succ hown
  obtain ⟨h1, h2, h3, h4, h5⟩ := Boxed.appended (B := s0) hv (by decide) hr (Nat.le_of_lt hlt) (Nat.le_refl _) hown hgr
  refine ⟨v, g, cap, w', hv, hrun, h1, ⟨⟨_, h2, ?_, by simp⟩, hb.trans h5⟩, h4⟩
  rw [List.take_succ_eq_append_getElem hk, List.map_append]
  have e : zs[k] = x := (List.getElem?_eq_some_iff.1 hx).2
  rw [e]
  exact h3
end

set_option maxRecDepth 100000 in
set_option maxHeartbeats 1000000 in
theorem vals1_in (n : Nat) (hn : 2 ≤ n) (lp Bx : Nat) (A : Option Addr) (cap : Nat) (zs : List Int) (hz : zs.length ≤ 1048576) (J : Nat → World → Prop) (R : World → Prop)
    (hJ : ∀ k W, J k W → W.cell? ⟨Bx, 0, none⟩ = some (.slice A zs.length cap) ∧ (0 < zs.length → ∃ b o, A = some ⟨b, o, none⟩ ∧ ∀ j x, zs[j]? = some x → W.cell? ⟨b, o + j, none⟩ = some (.int .u32 x)))
    (hY : ∀ k x W, J k W → R W → zs[k]? = some x → YieldAt Fence.wide (n - 1) Tryz.prog lp #[.int .u32 x] W fun e W' => e = .returned (.bool true) ∧ J (k + 1) W' ∧ R W')
    (W1 : World) (h0 : J 0 W1) (hR0 : R W1) :
    CallsIn Fence.wide n Tryz.prog 54 (#[.func (.yield lp) #[] #[]] ++ #[.pointer (some ⟨Bx, 0, none⟩)]) W1 fun e W' => (∃ v, e = .returned v) ∧ ∃ k, k = zs.length ∧ J k W' ∧ R W' := by
  refine callsIn_of_wp Tryz.func54 rfl trivial ?_ rfl
  simp only [Tryz.ntmps54, List.size_toArray, List.length_cons, List.length_nil, Nat.reduceAdd, Nat.reduceSub, Array.replicate_succ, Array.replicate_zero, List.push_toArray, List.append_toArray, List.nil_append, List.cons_append]
  obtain ⟨hc, -⟩ := hJ 0 W1 h0
  obtain ⟨m, hm⟩ : ∃ m, zs.length = m := ⟨_, rfl⟩
  rw [hm] at hc hz
  have HM := Lib.hid hm
  have HJ := Lib.hid hJ
  clear hm hJ
  rw [HM.out]
  have hmI : (m : Int) ≤ 1048576 := by omega
  gi_wp2
  gi_loopw [7] (fun i wr => ∃ k : Nat, k ≤ m ∧ i = .int .i64 k ∧ J k wr ∧ R wr) (fun i _ => m - (intOf i).toNat)
  case atStart => exact ⟨0, Nat.zero_le _, rfl, h0, hR0⟩
  case round =>
    obtain ⟨k, hk, rfl, hJk, hRk⟩ := hrel
    clear hc
    have hkI : (k : Int) ≤ m := by omega
    by_cases hlt : k < m
    · obtain ⟨-, h2⟩ := HJ.out k wr hJk
      obtain ⟨b, o, rfl, h3⟩ := h2 (by have := HM.out; omega)
      have hx : zs[k]? = some (zs[k]'(by have := HM.out; omega)) := List.getElem?_eq_getElem _
      obtain ⟨x, hxe⟩ : ∃ x, zs[k]'(by have := HM.out; omega) = x := ⟨_, rfl⟩
      rw [hxe] at hx
      have hcx := h3 k x hx
      obtain ⟨fn, tmps, assign, body, hy, hRd⟩ := hY k x wr hJk hRk hx
      have HRd := Lib.hid hRd
      have hltI : (k : Int) < m := by omega
      clear hxe hx h2 h3 hY hRd hJk hRk h0 hR0
      gi_wp2
      refine ⟨fun _ => by omega, ?_⟩
      refine HRd.out.mono ?_
      rintro e w3 ⟨rfl, hj3, hR3⟩
      have HH2 := Lib.hid (And.intro hj3 hR3)
      clear hj3 hR3
      gi_wp2
      go_roundw
      case rel => exact ⟨k + 1, by omega, by simp, HH2.out⟩
      case measure => simp [intOf]; omega
    · obtain rfl : k = m := by omega
      have HH := Lib.hid (And.intro hJk hRk)
      clear hJk hRk h0 hR0 hY
      gi_wp2
      go_end0
      exact ⟨⟨_, rfl⟩, _, rfl, HH.out⟩

set_option maxHeartbeats 1000000 in
theorem values_any (a : Option Addr) (len cap : Nat) (w : World) :
    Calls Tryz.prog 36 #[.slice a len cap] w fun e w' => e = .returned (.func (.func 54) #[] #[.pointer (some ⟨w.heap.size, 0, none⟩)]) ∧ w' = w.alloc (.cells #[.slice a len cap] 37) := by
  go_enter Tryz.func36, Tryz.ntmps36
  go_wp2_with fail
  go_ret
  exact ⟨rfl, rfl⟩

set_option maxRecDepth 100000 in
set_option maxHeartbeats 1600000 in
theorem appseq_vals (zs : List Int) (A : Option Addr) (cap Bx : Nat) (w : World) (hc : w.cell? ⟨Bx, 0, none⟩ = some (.slice A zs.length cap)) (hBx : Bx < w.heap.size) (hU : U32 w w.heap.size (.slice A zs.length cap) zs) (hz : zs.length ≤ 1048576) :
    Calls Tryz.prog 65 #[.slice none 0 0, .func (.func 54) #[] #[.pointer (some ⟨Bx, 0, none⟩)]] w fun e w' =>
      ∃ v, e = .returned v ∧ w'.ownsRow w.heap.size 30 1 v zs.length (zs.map (Value.int .u32)) ∧ (v = .slice none 0 0 ↔ zs.length = 0) ∧ Below w.heap.size w w' := by
  refine (callsIn_wide (n := 5)).1 ?_
  refine callsIn_of_wp_marks Tryz.func65 rfl trivial ?_ rfl
  simp only [Tryz.ntmps65, List.size_toArray, List.length_cons, List.length_nil, Nat.reduceAdd, Nat.reduceSub, Array.replicate_succ, Array.replicate_zero, List.push_toArray, List.append_toArray, List.nil_append, List.cons_append]
  have HB := Lib.hid (And.intro hc (And.intro hU hz))
  clear hc hU hz
  gi_wp2
  obtain ⟨W0, hW0⟩ : ∃ W0, w.alloc (.cells #[.slice none 0 0] 37) = W0 := ⟨_, rfl⟩
  have hj0 : VJ w.heap.size w zs 0 W0 := by
    rw [← hW0]
    exact ⟨⟨_, Boxed.new w _ _, ⟨by simp, .inl ⟨rfl, rfl⟩⟩, by simp⟩, (Below.refl _ w).alloc (Nat.le_refl _) _⟩
  have hz0 : W0.heap.size = w.heap.size + 1 := by rw [← hW0, World.size_alloc]
  rw [hW0]
  have HJ0 := Lib.hid hj0
  have HZ := Lib.hid hz0
  clear hj0 hW0
  refine wpIn_rangeFunc_state rfl (by decide) (gf := 54) (lb := #[.pointer (some ⟨Bx, 0, none⟩)]) rfl trivial (enters_of Tryz.func54 (by kernel_rfl) rfl) (encs := fun x : Int => #[.int .u32 x]) (fun _ => rfl)
    (VJ w.heap.size w zs) (fun k x k' => zs[k]? = some x ∧ k' = k + 1) (fun k => k = zs.length) 0
    (fun k W l o o' hl hh ho hj => hj.put o' (by omega) hh ho) (fun rr => (HJ0.out.alloc _).alloc _)
    (fun k x k' a1 W => VJ w.heap.size w zs k W ∧ (zs[k]? = some x ∧ k' = k + 1) ∧ a1 =
      { tmps := #[.slice none 0 0, .func (.func 54) #[] #[.pointer (some ⟨Bx, 0, none⟩)], .pointer (some ⟨w.heap.size, 0, none⟩), undef, .slice none 0 0, .int .u32 x, .func (.func 54) #[] #[.pointer (some ⟨Bx, 0, none⟩)], .int .u32 x, undef, undef, undef, undef, undef], defers := [] })
    (fun k x k' a1 W l o o' hl hh ho ⟨hj, ht, ha⟩ => ⟨hj.put o' (by omega) hh ho, ht, ha⟩) ?assign ?body ?hit ?done
  case assign =>
    intro l k x k' W K hj ht hsz hK
    have HK := Lib.hid hK
    have HT := Lib.hid (And.intro hj ht)
    clear hK hj ht
    gi_wp2
    exact HK.out _ _ (KeepsOthers.refl W) ⟨HT.out.1, HT.out.2, rfl⟩
  case body =>
    rintro l k x k' a1 W ⟨hj, ⟨hx, rfl⟩, rfl⟩ hsz
    obtain ⟨v, g, cp, w', hv, hrun, hv2, hj2, hko⟩ := hj.push hx HB.out.2.2
    have c0 := hv.cell
    have c1 := hv2.cell
    have f1 := hv2.frozen
    have HR := Lib.hid hrun
    have HE := Lib.hid (And.intro hko hj2)
    clear hrun hko hj2 hj hx hv hv2
    gi_wp2_with (gi_at_builtin; refine wpListIn_append_run _ rfl (.tmp 8) (.tmp 10) _ _ rfl _ _ rfl rfl _ _ HR.out ?_)
    exact HE.out
  case hit =>
    intro R W1 hR hRs hY hJ hR1
    refine vals1_in (5 - 1) (by decide) (W0.heap.size + 1) Bx A cap zs HB.out.2.2 (VJ w.heap.size w zs) R (fun k W hj => ?_) (fun k x W h1 h2 h3 => hY k x (k + 1) W h1 h2 ⟨h3, rfl⟩) W1 hJ hR1
    refine ⟨(hj.low.cell (p := ⟨Bx, 0, none⟩) hBx).trans HB.out.1, fun h0 => ?_⟩
    obtain ⟨A', cap', e, -, h2⟩ := HB.out.2.1.below hj.low (Nat.le_refl _)
    obtain ⟨b, o, e2, -, h4⟩ := h2 h0
    injection e with e _ _
    exact ⟨b, o, e.trans e2, h4⟩
  case done =>
    rintro k W rfl hj hK
    obtain ⟨v, hv, hr, hn⟩ := hj.box
    have c0 := hv.cell
    have HJ := Lib.hid (And.intro hj.low (And.intro hr (And.intro hn hK)))
    have hB := hv.lt
    clear hj hr hn hK hv hz0
    gi_wp2
    obtain ⟨hl, hr, hn, hK⟩ := HJ.out
    refine ⟨by simp, .inl ⟨_, _, rfl, run_takeDeferred hK, ?_⟩⟩
    rw [List.take_length] at hr
    exact ⟨_, results_tmp rfl _ _ _, v, rfl, ownsRow_putObj hr (.deferred none) hK rfl, hn, hl.grown (grownBy_putObj' W W0.heap.size _) (Nat.le_of_lt hB) (fun j e => by injection e with e; have := HZ.out; omega)⟩
end Go.Proofs.YtpcffnhbodjpbaaGreatDoor
