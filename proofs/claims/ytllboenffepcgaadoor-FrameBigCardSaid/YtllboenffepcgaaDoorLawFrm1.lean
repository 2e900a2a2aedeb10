/- The walk of the law FrameJoins. -/
import Derived.Test.YtllboenffepcgaaDoorJ8
set_option linter.unusedVariables false
set_option linter.unusedSimpArgs false
namespace Go.Proofs.YtllboenffepcgaaDoor
open Go.RowKit

theorem Run.data {b : List UInt8} {p : Nat} {fs : List Frm} {b' : List UInt8} {p' : Nat} (h : Run b p fs b' p') : ∀ f ∈ fs, f.data.length ≤ b.length := by
  induction h with
  | refl => intro f hf; cases hf
  | ready hs _ ih =>
    intro f hf
    rcases List.mem_cons.1 hf with rfl | hf
    · simp
    · exact ih f hf
  | @done b p k f0 fs b' p' hs _ ih =>
    intro f hf
    rcases List.mem_cons.1 hf with rfl | hf
    · unfold stepF at hs
      split at hs
      · cases hs
      · split at hs
        · cases hs
        · split at hs
          · injection hs with h1 h2; subst h1; simp only [List.length_take, List.length_drop]; omega
          · split at hs
            · injection hs with h1 h2; subst h1; simp only [List.length_take]; omega
            · split at hs
              · injection hs with h1 h2; subst h1; simp only [List.length_take]; omega
              · cases hs
    · have := ih f hf
      rw [List.length_drop] at this
      omega
theorem wpList_append_on {P : Program} (w : World) {ops : Array Oper} {rest : List Oper} {o : Oper} {a : Act} {Q : Exit → Act → World → Prop} (hw : Region.wanted o (yielded ops a.tmps) = true) (d s : Operand) (dT sT : TypeId)
    (ho : o.op = .call { callee := .builtin .append, args := #[d, s], argTypes := #[dT, sT] }) (x y : Value) (hx : a.eval d = x) (hy : a.eval s = y) (v : Value) (w' : World)
    (hrun : (Builtin.append_ #[dT, sT] o.type #[x, y]).run P w = .ok v w') (h : wpList P ops Q rest (a.put o.dst v) w') : wpList P ops Q (o :: rest) a w := by
  refine wpList_step fun K hK => ?_
  rw [hw]
  simp only [if_true]
  unfold Oper.wp execOp
  simp only [ho, resolve, invoke, builtin, Sem.run_bind, Sem.run_pure, Result.andThen_ok, List.map_toArray, List.map_cons, List.map_nil, hx, hy, hrun]
  exact hK _ _ h
theorem bcall {w W W' : World} (h : Below w.heap.size w W) (k : Below W.heap.size W W') : Below w.heap.size w W' := h.trans (k.mono h.size)
/-- Two streams, the first of which leaves nothing. -/
theorem run_join {a b : List UInt8} {fs gs : List Frm} {p1 p2 : Nat} {b2 : List UInt8} (h : Run a 0 fs [] p1) (k : Run b 0 gs b2 p2) : Run (a ++ b) 0 (fs ++ gs) b2 p2 := by
  have h1 := h.app b
  rw [List.nil_append] at h1
  have hp : p1 = 0 := by
    rcases h.place (.inl rfl) with e | e
    · exact e
    · simp at e
  subst hp
  exact h1.trans k

set_option maxRecDepth 100000 in
set_option maxHeartbeats 3200000 in
theorem frameJoins_walk (p : Option Addr) (c : Nat) (a : List UInt8) (q : Option Addr) (d : Nat) (b : List UInt8) (w : World) (hp : Bys w w.heap.size p a) (hc : a.length ≤ c) (hpn : p = none → a.length = 0 ∧ c = 0) (hq : Bys w w.heap.size q b) (hd : b.length ≤ d) (hqn : q = none → b.length = 0 ∧ d = 0) (hS : Std w) (hM : StdM w) :
    Calls Tryd.prog 5 #[.slice p a.length c, .slice q b.length d] w fun e w' => e = .returned (.bool true) ∧ Below w.heap.size w w' := by
  have HA := Lib.hid (fun W (hb : Below w.heap.size w W) => alive05_walk W (hS.below hb) (hM.below hb))
  by_cases hla : 1500 < a.length
  · have t1 : (1500 : Int) < a.length := by omega
    clear hp hq hS hM hla
    generalize a.length = n at *
    go_enter Tryd.func5, Tryd.ntmps5
    go_wp2_with fail
    refine (HA.out _ (Below.refl _ _)).mono ?_
    rintro e w1 ⟨rfl, hb⟩
    have HB := Lib.hid hb
    clear hb
    go_wp2_with fail
    go_ret
    exact ⟨rfl, HB.out⟩
  · have t1 : decide ((1500 : Int) < a.length) = false := decide_eq_false (by omega)
    have t1' : decide (1500 < a.length) = false := decide_eq_false (by omega)
    by_cases hlb : 1500 < b.length
    · have t2 : (1500 : Int) < b.length := by omega
      clear hp hq hS hM hla hlb
      generalize a.length = n at *
      generalize b.length = m at *
      go_enter Tryd.func5, Tryd.ntmps5
      go_wp2_with fail
      refine (HA.out _ (Below.refl _ _)).mono ?_
      rintro e w1 ⟨rfl, hb⟩
      have HB := Lib.hid hb
      clear hb
      go_wp2_with fail
      go_ret
      exact ⟨rfl, HB.out⟩
    · have t2 : decide ((1500 : Int) < b.length) = false := decide_eq_false (by omega)
      have t2' : decide (1500 < b.length) = false := decide_eq_false (by omega)
      have H1 := Lib.hid (rSplit_any a p c w hp (by omega) hc (fun e => (hpn e).2))
      have H2 := Lib.hid (fun W (hb : Below w.heap.size w W) => rSplit_any b q d W ((hq.below hb).more hb.size) (by omega) hd (fun e => (hqn e).2))
      have H3 := Lib.hid (fun W (hb : Below w.heap.size w W) => concat2 W p q c d a b ((hp.below hb).more hb.size) ((hq.below hb).more hb.size) (by omega))
      have H4 := Lib.hid (fun W (hb : Below w.heap.size w W) pv cv (hy : Bys W W.heap.size pv (a ++ b)) => split_any (a ++ b) pv cv W hy (by rw [List.length_append]; omega) (hS.below hb) (hM.below hb))
      have HL := Lib.hid (And.intro (show a.length ≤ 1500 by omega) (show b.length ≤ 1500 by omega))
      clear hp hq hS hM hla hlb hpn hqn hc hd
      obtain ⟨ab, hab⟩ : ∃ ab, a ++ b = ab := ⟨_, rfl⟩
      rw [hab] at H4
      simp only [hab] at H3
      have HAB := Lib.hid hab
      clear hab
      generalize hn : a.length = n at *
      generalize hm : b.length = m at *
      have HNM := Lib.hid (And.intro hn hm)
      clear hn hm
      go_enter Tryd.func5, Tryd.ntmps5
      go_wp2_with fail
      refine H1.out.mono ?_
      rintro e w1 ⟨v1, fs, b1, p1, rfl, o1, r1, s1, hb1⟩
      have HB1 := Lib.hid (And.intro hb1 (And.intro o1 (And.intro r1 s1)))
      clear hb1 o1 r1 s1
      by_cases h0 : 0 < b1.length
      · have t3 : (0 : Int) < b1.length := by omega
        clear h0
        go_wp2_with fail
        refine (HA.out _ HB1.out.1).mono ?_
        rintro e w2 ⟨rfl, hb⟩
        have HB := Lib.hid (bcall HB1.out.1 hb)
        clear hb
        go_wp2_with fail
        go_ret
        exact ⟨rfl, HB.out⟩
      · have h1 : b1 = [] := List.eq_nil_of_length_eq_zero (by omega)
        subst h1
        clear h0
        rw [List.length_nil]
        go_wp2_with fail
        refine (H2.out _ HB1.out.1).mono ?_
        rintro e w2 ⟨v2, gs, b2, p2, rfl, o2, r2, s2, hb2⟩
        have HB2 := Lib.hid (And.intro (bcall HB1.out.1 hb2) (And.intro o2 (And.intro r2 (And.intro s2 hb2))))
        clear hb2 o2 r2 s2
        go_wp2_with fail
        refine (H3.out _ HB2.out.1).mono ?_
        rintro e w3 ⟨v3, rfl, hbuf, hb3⟩
        obtain ⟨pv3, cv3, rfl, hcv3, hy3⟩ := hbuf.bys
        have hb3' := bcall (HB2.out.1.alloc HB2.out.1.size _) hb3
        have HB3 := Lib.hid (And.intro hb3' (And.intro hy3 hb3))
        clear hbuf hb3 hb3' hy3
        go_wp2_with fail
        refine (H4.out _ HB3.out.1 pv3 cv3 HB3.out.2.1).mono ?_
        rintro e w4 hsp
        obtain ⟨v4, rfl, o4, hb4⟩ := spl_at hsp (by rw [← HAB.out]; exact run_join HB1.out.2.2.1 HB2.out.2.2.1) HB2.out.2.2.2.1
        have HB4 := Lib.hid (And.intro (bcall HB3.out.1 hb4) (And.intro o4 hb4))
        clear hsp hb4 o4
        go_wp2_with fail
        refine (HA.out _ HB4.out.1).mono ?_
        rintro e w5 ⟨rfl, hb5⟩
        have HB5 := Lib.hid (And.intro (bcall HB4.out.1 hb5) hb5)
        clear hb5
        have k25 : Below w2.heap.size w2 w5 := bcall (bcall (bcall ((Below.refl _ _).alloc (Nat.le_refl _) _) HB3.out.2.2) HB4.out.2.2) HB5.out.2
        have k15 : Below w1.heap.size w1 w5 := bcall HB2.out.2.2.2.2 k25
        have z1 := HB2.out.2.2.2.2.size
        have z2 := HB3.out.2.2.size
        rw [World.size_alloc] at z2
        have z4 := HB4.out.2.2.size
        have z5 := HB5.out.2.size
        have z0 := HB1.out.1.size
        have hv1 := HB1.out.2.1.own_lt'
        have ca := HB1.out.2.2.1.count
        have cb := HB2.out.2.2.1.count
        have hnm := HNM.out
        have hl := HL.out
        obtain ⟨v6, w6, hrun, o6, hg6⟩ := out_append (HB1.out.2.1.keep (KeptOn.below k15) (fun _ _ h => h)) (lo := w1.heap.size) (HB2.out.2.1.keep (KeptOn.below k25) (fun _ _ h => h)) hv1 (fun k hk => by omega) (fun k hk => by omega) (by omega)
        have hv0 : ∀ k, v1.ownBlock = some k → w.heap.size ≤ k := by
          obtain ⟨_, _, _, ho⟩ := HB1.out.2.1
          exact ho
        have hbw := HB5.out.1.grown hg6 HB5.out.1.size hv0
        have o4 := (HB4.out.2.1.keep (KeptOn.below HB5.out.2) (fun _ _ h => h)).keep (ok' := fun k => w3.heap.size ≤ k) (KeptOn.grown hg6 (fun s e h => by have := hv1 s e; omega)) (fun _ _ h => h)
        have hdat : ∀ f ∈ fs ++ gs, f.data.length ≤ 1048576 := fun f hf => by
          rcases List.mem_append.1 hf with h | h
          · have := HB1.out.2.2.1.data f h; omega
          · have := HB2.out.2.2.1.data f h; omega
        have HS := Lib.hid (same_any v4 v6 (fs ++ gs) _ _ w6 o4 o6 hdat (by rw [List.length_append]; omega))
        have HR := Lib.hid hrun
        have HW := Lib.hid hbw
        clear k25 k15 z1 z2 z4 z5 z0 hv1 ca cb hnm hl hrun o6 hg6 hv0 hbw o4 hdat
        go_wp2_with (at_builtin; refine wpList_append_on _ rfl (.tmp 44) (.tmp 45) _ _ rfl _ _ rfl rfl _ _ HR.out ?_)
        refine HS.out.mono ?_
        rintro e w7 ⟨rfl, hb7⟩
        have HW7 := Lib.hid (bcall HW.out hb7)
        clear hb7
        go_wp2_with fail
        go_ret
        exact ⟨rfl, HW7.out⟩
end Go.Proofs.YtllboenffepcgaaDoor
