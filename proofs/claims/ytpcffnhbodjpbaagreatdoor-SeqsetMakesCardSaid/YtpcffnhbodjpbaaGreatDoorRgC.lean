/- The walk of the merge's iterator. -/
import Derived.Test.YtpcffnhbodjpbaaGreatDoorRgB
set_option linter.unusedVariables false
set_option linter.unusedSimpArgs false
namespace Go.Proofs.YtpcffnhbodjpbaaGreatDoor
open Go Go.RowKit Go.Shelf Go.Lib Go.Sort
attribute [local go_sem] Oper.semAt_some

theorem wpListIn_append_runR {F : Fence} {n : Nat} {P : Program} (w : World) {ops : Array Oper} {rest : List Oper} {o : Oper} {a : Act} {Q : Exit → Act → World → Prop} (hgd : o.guard = none) (d s : Operand) (dT sT : TypeId)
    (ho : o.op = .call { callee := .builtin .append, args := #[d, s], argTypes := #[dT, sT] }) (x y : Value) (hx : a.eval d = x) (hy : a.eval s = y) (v : Value) (w' : World)
    (hrun : (Builtin.append_ #[dT, sT] o.type #[x, y]).run P w = .ok v w') (h : wpListIn F n P ops Q rest (a.put o.dst v) w') : wpListIn F n P ops Q (o :: rest) a w := by
  refine wpListIn_plain hgd fun K hK' => ?_
  unfold Oper.wpIn
  refine ⟨?_, ?_⟩
  · simp [Oper.about, ho, resolve, Target.leads, Sem.run_pure]
  · rw [Oper.semAt_plain F _ _ (by rw [ho]; intro c hc'; cases hc')]
    simp [execOp, ho, resolve, invoke, builtin, hx, hy, hrun, Result.andThen]
    exact hK' _ _ h

/-- What the merge yields of a set. -/
def MOut (top : Nat) (l : List RB) (ys : List Rng) : Prop := ∃ P, P.Perm ((l.map RB.rng).map (plainR top)) ∧ sortedR P ∧ ys = mrg 4294967295 1 P
def MGo (top : Nat) (l : List RB) (ys : List Rng) (x : Rng) : Prop := ∃ P rest, P.Perm ((l.map RB.rng).map (plainR top)) ∧ sortedR P ∧ ys ++ x :: rest = mrg 4294967295 1 P

theorem infoRange : (Tryz.prog.info? 32).map (fun i => (i.zero, i.size, i.bytes)) = some (some (.agg #[.int .u32 0, .int .u32 0]), 2, 8) := by kernel_rfl
/-- 'p = append(p, r)'. -/
theorem push_rng {base k : Nat} {v : Value} {P : List RB} {W : World} (hk : P.length = k) (h : Buf W base 2 v k (P.flatMap encB)) (x : RB) (hb : base ≤ W.heap.size) (hl : k ≤ 1048576) (hw : ∀ j, v.ownBlock = some j → base ≤ j) :
    ∃ g o c w', (Builtin.append_ #[22, 22] 22 #[v, .slice (some ⟨W.heap.size, 0, none⟩) 1 1]).run Tryz.prog (W.alloc (.cells #[.int .u32 x.rng.lo, .int .u32 x.rng.hi] 32)) = .ok (.slice (some ⟨g, o, none⟩) (k + 1) c) w' ∧
      Buf w' base 2 (.slice (some ⟨g, o, none⟩) (k + 1) c) (k + 1) ((P ++ [x]).flatMap encB) ∧ Below base W w' := by
  obtain ⟨i0, hi, hz0, hz1, hz2⟩ := info_parts infoRange
  obtain ⟨v', w', hrun, hb', hgr, -⟩ := run_append_buf (P := Tryz.prog) (W.alloc (.cells #[.int .u32 x.rng.lo, .int .u32 x.rng.hi] 32)) 22 22 32 i0 _ 2 8 Tryz.underlying22 hi hz0 hz1 hz2 rfl (by decide) base v k _ (h.past _) (some ⟨W.heap.size, 0, none⟩) 1 1 [.int .u32 x.rng.lo, .int .u32 x.rng.hi]
    ⟨rfl, fun u hu => by simp at hu; rcases hu with rfl | rfl <;> rfl, fun _ => ⟨_, rfl, fun j u hj => by
      rw [Go.WideShapes.add_plain]
      simp only [World.cell?, heap_alloc_new, Nat.zero_add]
      simpa using hj⟩⟩ (by unfold maxLen; omega) (by omega) (by rw [World.size_alloc]; omega)
  have hbel : Below base W w' := ((Below.refl _ W).alloc hb _).grown hgr (by rw [World.size_alloc]; omega) hw
  rcases hb'.2 with ⟨_, h0⟩ | ⟨g, o, c, rfl, -⟩
  · omega
  · refine ⟨g, o, c, w', hrun, ?_, hbel⟩
    rw [List.flatMap_append]
    exact hb'

theorem cells_obj {W : World} {a : Addr} {v : Value} (h : W.cell? a = some v) : ∃ o : Obj, W.heap[a.block]? = some o ∧ o.isCells = true := by
  unfold World.cell? at h
  cases ho : W.heap[a.block]? with
  | none => simp [ho] at h
  | some o =>
    refine ⟨o, rfl, ?_⟩
    simp only [ho] at h
    cases o <;> first | rfl | cases h
theorem mrg_cons (M nx a c : Nat) (r : List Rng) : mrg M nx (⟨a, c⟩ :: r) = if c < max a nx then mrg M nx r else ⟨max a nx, c⟩ :: (if c = M then [] else mrg M (c + 1) r) := by
  conv => lhs; unfold mrg

set_option maxRecDepth 100000 in
set_option maxHeartbeats 3200000 in
theorem merged1_in (n : Nat) (hn : 3 ≤ n) (lp Bt Bl top : Nat) (ht : top < 4294967296) (l : List RB) (v : Value) (hl : l.length ≤ 1048576) (hl0 : 0 < l.length) (J : List (Nat × Obj) → List Rng → World → Prop) (R : World → Prop)
    (hR : ∀ W W', R W → Below W.heap.size W W' → R W')
    (hgrow : ∀ zs ys W W', J zs ys W → Below W.heap.size W W' → J zs ys W')
    (hprot : ∀ zs ys W W' k o, J zs ys W → Below W.heap.size W W' → W.heap.size ≤ k → W'.heap[k]? = some o → o.isCells = true → J ((k, o) :: zs) ys W')
    (hweak : ∀ z zs ys W, J (z :: zs) ys W → J zs ys W)
    (hat : ∀ z zs ys W, J (z :: zs) ys W → W.heap[z.1]? = some z.2)
    (hY : ∀ zs ys x W, J zs ys W → R W → MGo top l ys x → YieldAt Fence.wide (n - 1) Tryz.prog lp #[.agg #[.int .u32 x.lo, .int .u32 x.hi]] W fun e W' => e = .returned (.bool true) ∧ J zs (ys ++ [x]) W' ∧ R W')
    (W1 : World) (hbt : W1.cell? ⟨Bt, 0, none⟩ = some (.int .u32 top)) (hbtl : Bt < W1.heap.size) (hbl : W1.cell? ⟨Bl, 0, none⟩ = some v) (hbll : Bl < W1.heap.size) (hrg : RgL W1 W1.heap.size v (l.map RB.rng)) (h0 : J [] [] W1) (hR0 : R W1) :
    CallsIn Fence.wide n Tryz.prog 48 (#[.func (.yield lp) #[] #[]] ++ #[.pointer (some ⟨Bl, 0, none⟩), .pointer (some ⟨Bt, 0, none⟩)]) W1 fun e W' => (∃ v, e = .returned v) ∧ ∃ zs ys, MOut top l ys ∧ J zs ys W' ∧ R W' := by
  refine callsIn_of_wp Tryz.func48 rfl trivial ?_ rfl
  simp only [Tryz.ntmps48, List.size_toArray, List.length_cons, List.length_nil, Nat.reduceAdd, Nat.reduceSub, Array.replicate_succ, Array.replicate_zero, List.push_toArray, List.append_toArray, List.nil_append, List.cons_append]
  obtain ⟨A, cap, rfl, hcap, hcells⟩ := hrg
  rw [List.length_map] at hcap hcells hbl
  obtain ⟨b, o, rfl, hb, hc⟩ := hcells hl0
  obtain ⟨m, hm⟩ : ∃ m, l.length = m := ⟨_, rfl⟩
  rw [hm] at hcap hbl hl hl0
  have HM := Lib.hid hm
  have HJ := Lib.hid (And.intro hR (And.intro hgrow (And.intro hprot (And.intro hweak (And.intro hat hY)))))
  have H0 := Lib.hid (And.intro h0 hR0)
  have HC := Lib.hid (And.intro hc (And.intro hb (And.intro hbtl (And.intro hbll (And.intro hbt hbl)))))
  clear hm hR hgrow hprot hweak hat hY h0 hR0 hc hb hbtl hbll hbt hcells
  have hmI : (m : Int) ≤ 1048576 := by omega
  gi_wp2
  gi_loopw [4, 12] (fun s4 i wr => ∃ (k : Nat) (sv : Value), k ≤ m ∧ sv = s4 ∧ i = .int .i64 k ∧ Buf wr W1.heap.size 2 sv k (((l.take k).map (plainB top ht)).flatMap encB) ∧ Below W1.heap.size W1 wr) (fun _ i _ => m - (intOf i).toNat)
  case atStart => exact ⟨0, _, Nat.zero_le _, rfl, rfl, Buf.nil _ _ _, Below.refl _ _⟩
  case round =>
    obtain ⟨k, sv, hk, rfl, rfl, hbuf, hbel⟩ := hrel
    clear hbl
    have hkI : (k : Int) ≤ m := by omega
    by_cases hlt : k < m
    · have hltI : (k : Int) < m := by omega
      have hkl : k < l.length := by have := HM.out; omega
      obtain ⟨x, hxe⟩ : ∃ x, l[k] = x := ⟨_, rfl⟩
      have hx : l[k]? = some x := by rw [List.getElem?_eq_getElem hkl, hxe]
      obtain ⟨e0, e1⟩ := HC.out.1 k x.rng (by rw [List.getElem?_map, hx]; rfl)
      have c0 := (hbel.cell (p := ⟨b, o + k * 2, none⟩) HC.out.2.1).trans e0
      have c1 := (hbel.cell (p := ⟨b, o + k * 2 + 1, none⟩) HC.out.2.1).trans e1
      have ct := (hbel.cell (p := ⟨Bt, 0, none⟩) HC.out.2.2.1).trans HC.out.2.2.2.2.1
      have hbtw : Bt < wr.heap.size := by have := HC.out.2.2.1; have := hbel.size; omega
      have hbtn : Bt ≠ wr.heap.size := by omega
      have ct2 : (wr.alloc (.cells #[.int .u32 x.rng.lo, .int .u32 x.rng.hi] 32)).cell? ⟨Bt, 0, none⟩ = some (.int .u32 top) := (((Below.refl wr.heap.size wr).alloc (Nat.le_refl _) _).cell (p := ⟨Bt, 0, none⟩) hbtw).trans ct
      have HP := Lib.hid (fun W' => callsIn_wide (n := n - 1).2 (plain_any top x.rng W'))
      have HB := Lib.hid (And.intro hbuf hbel)
      have HX := Lib.hid (And.intro hxe hx)
      clear hbuf hbel hxe hx e0 e1
      gi_wp2
      refine ⟨trivial, fun _ => by omega, ?_⟩
      refine (HP.out _).mono ?_
      rintro e w3 ⟨rfl, hb3⟩
      have hbx : Below wr.heap.size wr w3 := ((Below.refl _ wr).alloc (Nat.le_refl _) _).trans (hb3.mono (by rw [World.size_alloc]; omega))
      have hown : ∀ j, sv.ownBlock = some j → W1.heap.size ≤ j := fun j e => by
        rcases HB.out.1.2 with ⟨rfl, _⟩ | ⟨g, off, cap, rfl, h1, _⟩
        · cases e
        · have e' : g = j := by simpa [Value.ownBlock] using e
          omega
      obtain ⟨g, o2, c2, w4, hrun, hb4, hbel4⟩ := push_rng (base := W1.heap.size) (k := k) (v := sv) (P := (l.take k).map (plainB top ht)) (W := w3) (by rw [List.length_map, List.length_take]; omega) (HB.out.1.below hbx (Nat.le_refl _)) (plainB top ht x) (by have := HB.out.2.size; have := hbx.size; omega) (by omega) hown
      have HR := Lib.hid hrun
      have HE := Lib.hid (And.intro hb4 (And.intro hbel4 hbx))
      clear hrun hb4 hbel4 hb3 hbx hown
      gi_wp2_with (gi_at_builtin; refine wpListIn_append_runR _ rfl (.tmp 16) (.tmp 20) _ _ rfl _ _ rfl rfl _ _ HR.out ?_)
      go_roundw
      case rel =>
        refine ⟨k + 1, _, by omega, rfl, by simp, ?_, (HB.out.2.trans (HE.out.2.2.mono HB.out.2.size)).trans HE.out.2.1⟩
        rw [List.take_succ_eq_append_getElem hkl, List.map_append, HX.out.1]
        exact HE.out.1
      case measure => simp [intOf]; omega
    · obtain rfl : k = m := by omega
      rcases hbuf.2 with ⟨_, h0⟩ | ⟨g, off, cp, rfl, hbg, hg, hncp, -, -⟩
      · omega
      have htk : l.take k = l := by rw [List.take_of_length_le]; have := HM.out; omega
      rw [htk] at hbuf
      have HS := Lib.hid (callsIn_wide (n := n - 1).2 (sortF_any (by rw [List.length_map]; exact HM.out) hbuf hg hbg hbel.size (by omega)))
      have HB := Lib.hid hbel
      have HG := Lib.hid hbg
      clear hbuf hbel hg hbg hncp
      gi_wp2
      refine ⟨trivial, fun _ => by omega, ?_⟩
      refine HS.out.mono ?_
      rintro e w5 ⟨rfl, hb5, p, hp, hsp, hcp⟩
      have hg5 : ∃ ob, w5.heap[g]? = some ob ∧ ob.isCells = true := by
        obtain ⟨y, hy⟩ : ∃ y, p[0]? = some y := by
          have : 0 < p.length := by rw [hp.length_eq, List.length_map]; have := HM.out; omega
          exact ⟨_, List.getElem?_eq_getElem this⟩
        obtain ⟨c0, -⟩ := hcp 0 y hy
        exact cells_obj c0
      obtain ⟨ob, hob, hobc⟩ := hg5
      have hb15 := HB.out.trans hb5
      have hJ5 := HJ.out.2.2.1 [] [] W1 w5 g ob H0.out.1 hb15 HG.out hob hobc
      have hR5 := HJ.out.1 W1 w5 H0.out.2 hb15
      have hpl : p.length = k := by rw [hp.length_eq, List.length_map]; exact HM.out
      have HP := Lib.hid (And.intro hp (And.intro hsp (And.intro hcp (And.intro hob hpl))))
      have H5 := Lib.hid (And.intro hJ5 hR5)
      clear hp hsp hcp hob hpl hJ5 hR5 hb5 hb15
      gi_wp2
      gi_loopw [7, 27] (fun s7 i wr => ∃ (q nx : Nat) (ys : List Rng), q ≤ k ∧ i = .int .i64 q ∧ s7 = .int .u32 nx ∧ 1 ≤ nx ∧ nx ≤ 4294967295 ∧ J [(g, ob)] ys wr ∧ R wr ∧ ys ++ mrg 4294967295 nx ((p.map RB.rng).drop q) = mrg 4294967295 1 (p.map RB.rng)) (fun _ i _ => k - (intOf i).toNat)
      case atStart => exact ⟨0, 1, [], Nat.zero_le _, rfl, rfl, Nat.le_refl _, by omega, H5.out.1, H5.out.2, rfl⟩
      case round =>
        obtain ⟨q, nx, ys, hq, rfl, rfl, hn1, hn2, hJ, hRq, heq⟩ := hrel
        have hqI : (q : Int) ≤ k := by omega
        by_cases hlt : q < k
        · have hltI : (q : Int) < k := by omega
          have hql : q < p.length := by rw [HP.out.2.2.2.2]; exact hlt
          obtain ⟨⟨⟨a, ha⟩, ⟨c, hc⟩⟩, hxe⟩ : ∃ x, p[q] = x := ⟨_, rfl⟩
          have hx : p[q]? = some (⟨a, ha⟩, ⟨c, hc⟩) := by rw [List.getElem?_eq_getElem hql, hxe]
          obtain ⟨e0, e1⟩ := HP.out.2.2.1 q _ hx
          have hgb : wr.heap[g]? = w5.heap[g]? := (HJ.out.2.2.2.2.1 (g, ob) [] ys wr hJ).trans HP.out.2.2.2.1.symm
          have c0 : wr.cell? ⟨g, off + q * 2, none⟩ = some (.int .u32 a) := (World.cell?_of_block (a := ⟨g, off + q * 2, none⟩) hgb).trans e0
          have c1 : wr.cell? ⟨g, off + q * 2 + 1, none⟩ = some (.int .u32 c) := (World.cell?_of_block (a := ⟨g, off + q * 2 + 1, none⟩) hgb).trans e1
          have hdrop : (p.map RB.rng).drop q = ⟨a, c⟩ :: (p.map RB.rng).drop (q + 1) := by
            rw [List.drop_eq_getElem_cons (by rw [List.length_map]; exact hql), List.getElem_map, hxe]
            rfl
          rw [hdrop] at heq
          obtain ⟨mx, hmx⟩ : ∃ mx, max a nx = mx := ⟨_, rfl⟩
          have hmxI : max (a : Int) (nx : Int) = (mx : Int) := by omega
          have hmx0 : ((mx : Int) == 0) = false := by simp; omega
          have hmn : nx ≤ mx := by omega
          have hmM : mx ≤ 4294967295 := by omega
          rw [mrg_cons, hmx] at heq
          have HQ := Lib.hid (And.intro hJ (And.intro hRq heq))
          have hcI : (c : Int) < 4294967296 := by omega
          clear hJ hRq heq hgb hdrop hx hxe e0 e1 hmx
          by_cases hsk : c < mx
          · have hskI : (c : Int) < mx := by omega
            gi_wp2
            go_roundw
            case rel =>
              obtain ⟨hJ, hRq, heq⟩ := HQ.out
              rw [if_pos hsk] at heq
              exact ⟨q + 1, nx, ys, by omega, by simp, rfl, hn1, hn2, HJ.out.2.1 _ _ _ _ hJ ((Below.refl _ wr).alloc (Nat.le_refl _) _), HJ.out.1 _ _ hRq ((Below.refl _ wr).alloc (Nat.le_refl _) _), heq⟩
            case measure => simp [intOf]; omega
          · have hskI : decide ((c : Int) < mx) = false := decide_eq_false (by omega)
            have hskp : ¬ ((c : Int) < mx) := by omega
            have hbw : Below wr.heap.size wr (wr.alloc (.cells #[.int .u32 mx, .int .u32 c] 32)) := (Below.refl _ wr).alloc (Nat.le_refl _) _
            obtain ⟨hJ, hRq, heq⟩ := HQ.out
            rw [if_neg hsk] at heq
            have hJy := HJ.out.2.2.1 [(g, ob)] ys wr _ wr.heap.size _ hJ hbw (Nat.le_refl _) (heap_alloc_new wr _) rfl
            have hgo : MGo top l ys ⟨mx, c⟩ := ⟨p.map RB.rng, _, by
              have := HP.out.1.map RB.rng
              rw [List.map_map] at this ⊢
              exact this, HP.out.2.1, heq⟩
            have hyy := HJ.out.2.2.2.2.2 _ ys ⟨mx, c⟩ _ hJy (HJ.out.1 _ _ hRq hbw) hgo
            change YieldAt _ _ _ _ #[.agg #[.int .u32 (mx : Nat), .int .u32 (c : Nat)]] _ _ at hyy
            obtain ⟨fn, tmps, assign, body, hy, hRd⟩ := hyy
            have HRd := Lib.hid hRd
            have HQ2 := Lib.hid heq
            clear HQ hJ hRq heq hJy hgo hRd hbw
            gi_wp2
            refine ⟨fun _ => by omega, ?_⟩
            refine HRd.out.mono ?_
            rintro e w6 ⟨rfl, hJ6, hR6⟩
            have hblk : Blk w6 wr.heap.size 32 #[.int .u32 mx, .int .u32 c] := HJ.out.2.2.2.2.1 _ _ _ _ hJ6
            have d1 : w6.cell? ⟨wr.heap.size, 1, none⟩ = some (.int .u32 c) := hblk.cell 1
            have H6 := Lib.hid (And.intro (HJ.out.2.2.2.1 _ _ _ _ hJ6) hR6)
            clear hJ6 hR6 hblk
            by_cases hcM : c = 4294967295
            · subst hcM
              have H7 := Lib.hid HQ2.out
              gi_wp2
              refine bodyPost_ret (results_none rfl _ _ _) rfl ?_
              refine ⟨⟨_, rfl⟩, _, _, ⟨p.map RB.rng, ?_, HP.out.2.1, ?_⟩, H6.out.1, H6.out.2⟩
              · have := HP.out.1.map RB.rng
                rw [List.map_map] at this ⊢
                exact this
              · have := H7.out
                simpa using this
            · have hcMz : ((c : Int) == 4294967295) = false := by simp; omega
              have hwr : IntKind.u32.wrap ((c : Int) + 1) = (c : Int) + 1 := by simp [IntKind.wrap, IntKind.bits, IntKind.signed]; omega
              gi_wp2
              go_roundw
              case rel =>
                refine ⟨q + 1, c + 1, ys ++ [⟨mx, c⟩], by omega, by simp, by simp, by omega, by omega, H6.out.1, H6.out.2, ?_⟩
                have := HQ2.out
                rw [if_neg hcM] at this
                rw [List.append_assoc]
                exact this
              case measure => simp [intOf]; omega
        · obtain rfl : q = k := by omega
          have hend : ys = mrg 4294967295 1 (p.map RB.rng) := by
            rw [← heq, List.drop_of_length_le (by rw [List.length_map, HP.out.2.2.2.2]; exact Nat.le_refl _)]
            simp [mrg]
          have HE := Lib.hid (And.intro hend (And.intro hJ hRq))
          clear hend hJ hRq heq
          gi_wp2
          go_end0
          refine ⟨⟨_, rfl⟩, _, ys, ⟨p.map RB.rng, ?_, HP.out.2.1, HE.out.1⟩, HE.out.2.1, HE.out.2.2⟩
          have := HP.out.1.map RB.rng
          rw [List.map_map] at this ⊢
          exact this
end Go.Proofs.YtpcffnhbodjpbaaGreatDoor
