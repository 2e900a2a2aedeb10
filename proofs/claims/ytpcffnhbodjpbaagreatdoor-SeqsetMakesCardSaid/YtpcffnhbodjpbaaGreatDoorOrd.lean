/- Regions that draw their order: what only reads, in worlds of a class, may be taken first. -/
import Derived.Test.YtpcffnhbodjpbaaGreatDoorBase
import Derived.Orders
set_option linter.unusedVariables false
set_option linter.unusedSimpArgs false
namespace Go.Proofs.YtpcffnhbodjpbaaGreatDoor
open Go

section
variable {P : Program} {md : Region.Mode} {ops : Array Oper} {C : World → Prop} {Q : Exit → Act → World → Prop}

/-- Whatever order is picked, and each step leads to a world of the class. -/
def anyC (P : Program) (md : Region.Mode) (ops : Array Oper) (C : World → Prop) (Q : Exit → Act → World → Prop) : Nat → Array Bool → Act → World → Prop
  | 0, listed, a, w => Region.ready md ops listed = [] ∧ Q .normal a w
  | fuel + 1, listed, a, w => (Region.ready md ops listed = [] → Q .normal a w) ∧
      ∀ i ∈ Region.ready md ops listed, wpOp P ops Q i (fun a' w' => C w' ∧ anyC P md ops C Q fuel (listed.setIfInBounds i true) a' w') a w
theorem anyC.any : ∀ (fuel : Nat) (listed : Array Bool) (a : Act) (w : World), anyC P md ops C Q fuel listed a w → wpAny P md ops Q fuel listed a w
  | 0, _, _, _, h => h
  | fuel + 1, _, _, _, h => ⟨h.1, fun i hi => wpOp_mono (fun a' w' h' => anyC.any fuel _ a' w' h'.2) (h.2 i hi)⟩
/-- In each world of the class the operation hands back v and leaves the world as it is. -/
def ReadsC (P : Program) (ops : Array Oper) (C : World → Prop) (o : Oper) (v : Value) (a : Act) : Prop :=
  (Region.wanted o (yielded ops a.tmps) = true ∧ ∀ w, C w → (execOp a.eval o).run P w = .ok (.value v) w) ∨ (Region.wanted o (yielded ops a.tmps) = false ∧ v = undef)
theorem ReadsC.alike {o : Oper} {v : Value} {a a' : Act} (h : ReadsC P ops C o v a) (he : execOp a'.eval o = execOp a.eval o) (hw : Region.wanted o (yielded ops a'.tmps) = Region.wanted o (yielded ops a.tmps)) : ReadsC P ops C o v a' := by
  unfold ReadsC at h ⊢
  rw [hw, he]
  exact h
theorem ReadsC.step {i : Nat} {o : Oper} {v : Value} {a : Act} {w : World} {K : Act → World → Prop} (hi : ops[i]? = some o) (h : ReadsC P ops C o v a) (hC : C w) (hK : K (a.put o.dst v) w) : wpOp P ops Q i K a w := by
  unfold wpOp
  rw [hi]
  simp only
  rcases h with ⟨h1, h2⟩ | ⟨h1, rfl⟩
  · rw [if_pos h1]
    refine .inl ?_
    unfold Oper.wp
    rw [h2 w hC]
    exact hK
  · rw [if_neg (by rw [h1]; exact Bool.false_ne_true)]
    exact hK
/-- An operation that is apart from a slot does the same whether the slot is filled before or after. -/
theorem op_late {j : Nat} {oj : Oper} {x : Option Tmp} {v : Value} {Y : Act → Prop} (hj : ops[j]? = some oj) (h1 : ∀ d, x = some d → d ∉ oj.looksAt ops) (h2 : ∀ d, x = some d → oj.dst ≠ some d) (hs : ∀ cs b, oj.op ≠ .select cs b)
    (hQ : ∀ c a w, Q (.panic c) (a.put x v) w → Q (.panic c) a w) (hY : ∀ a u, Y a → Y (a.put oj.dst u)) (hD : ∀ a d, Y a → Y { a with defers := d :: a.defers }) {K : Act → World → Prop} {a : Act} {w : World} (hy : Y a)
    (h : wpOp P ops Q j K (a.put x v) w) : wpOp P ops Q j (fun a' w' => Y a' ∧ K (a'.put x v) w') a w := by
  have ex : execOp (a.put x v).eval oj = execOp a.eval oj := execOp_put oj hs a x v h1
  have swap : ∀ (b : Act) u, (b.put oj.dst u).put x v = (b.put x v).put oj.dst u := fun b u => (Act.put_comm b v u h2).symm
  unfold wpOp at h ⊢
  rw [hj] at h ⊢
  simp only at h ⊢
  rw [wanted_put oj a x v h1] at h
  by_cases hw : Region.wanted oj (yielded ops a.tmps) = true
  · rw [if_pos hw] at h ⊢
    rcases h with h | ⟨ha, hl⟩
    · refine .inl ?_
      unfold Oper.wp at h ⊢
      rw [ex] at h
      cases hr : (execOp a.eval oj).run P w with
      | halt t w' =>
        rw [hr] at h
        cases t <;> first | exact h | exact hQ _ _ _ h
      | ok n w' =>
        rw [hr] at h
        cases n with
        | value u => exact ⟨hY a u hy, by rw [swap]; exact h⟩
        | skip => exact ⟨hY a _ hy, by rw [swap]; exact h⟩
        | defer d => exact ⟨hY _ _ (hD a d hy), by rw [swap, ← Act.put_defers]; exact h⟩
        | enter f args =>
          refine Calls.mono h fun e w'' he => ?_
          cases e with
          | returned u => exact ⟨hY a u hy, by rw [swap]; exact he⟩
          | panicked c => exact hQ _ _ _ he
          | outgrown => exact he
        | row r args => exact Rows.mono h fun u w'' he => ⟨hY a u hy, by rw [swap]; exact he⟩
        | _ => exact h
    · refine .inr ⟨?_, hl⟩
      unfold Oper.asks at ha ⊢
      rw [ex] at ha
      exact ha
  · rw [if_neg hw] at h ⊢
    exact ⟨hY a _ hy, by rw [swap]; exact h⟩
theorem anyC_first {i : Nat} {oi : Oper} {v : Value} (hi : ops[i]? = some oi) (hs : ∀ (j : Nat) (o : Oper) cs b, ops[j]? = some o → o.op ≠ .select cs b) (hQ : ∀ c a w, Q (.panic c) (a.put oi.dst v) w → Q (.panic c) a w) :
    ∀ (fuel : Nat) (listed : Array Bool) (a : Act) (w : World),
      (∀ j oj, ops[j]? = some oj → j ≠ i → listed.getD j true = false → (∀ e ∈ oj.after, Region.binds md e = true → e.on ≠ i) → oi.apart ops oj = true) →
      i ∈ Region.ready md ops listed → C w → ReadsC P ops C oi v a → anyC P md ops C Q fuel (listed.setIfInBounds i true) (a.put oi.dst v) w → anyC P md ops C Q (fuel + 1) listed a w := by
  intro fuel
  induction fuel with
  | zero =>
    intro listed a w _ hr hC hy H
    refine ⟨fun h => (by rw [h] at hr; cases hr), fun j hj => ?_⟩
    by_cases e : j = i
    · subst e
      exact hy.step hi hC ⟨hC, H⟩
    · have := ready_mono hj e
      rw [H.1] at this
      cases this
  | succ fuel ih =>
    intro listed a w hfree hr hC hy H
    refine ⟨fun h => (by rw [h] at hr; cases hr), fun j hj => ?_⟩
    by_cases e : j = i
    · subst e
      exact hy.step hi hC ⟨hC, H⟩
    · obtain ⟨hun, oj, hoj, hall⟩ := mem_ready.1 hj
      have hnot : ∀ d ∈ oj.after, Region.binds md d = true → d.on ≠ i := fun d hd hb heq => by
        have k1 := hall d hd hb
        have k0 := (mem_ready.1 hr).1
        rw [heq] at k1
        rw [Array.getD_eq_getD_getElem?] at k0 k1
        cases hg : listed[i]? with
        | none => rw [hg] at k0; cases k0
        | some b => rw [hg] at k0 k1; simp only [Option.getD_some] at k0 k1; rw [k0] at k1; cases k1
      obtain ⟨a1, a2, a3⟩ := Oper.apart_spec (hfree j oj hoj e hun hnot)
      have h2 := op_late (Y := ReadsC P ops C oi v) hoj a1 a2 (fun cs b => hs j oj cs b hoj) hQ
        (fun b u hb => hb.alike (execOp_put oi (fun cs b => hs i oi cs b hi) b oj.dst u a3) (wanted_put oi b oj.dst u a3)) (fun b d hb => hb.alike rfl rfl) hy (H.2 j (ready_mono hj e))
      refine wpOp_mono (fun a' w' h3 => ⟨h3.2.1, ih _ a' w' (fun k ok hk hki hku hno => hfree k ok hk hki ?_ hno) (ready_mono hr (Ne.symm e)) h3.2.1 h3.1 ?_⟩) h2
      · by_cases ejk : j = k
        · subst ejk; exact hun
        · rwa [getD_set_ne true ejk] at hku
      · rw [Array.setIfInBounds_comm _ _ e]
        exact h3.2.2
theorem anyC_take {i : Nat} {oi : Oper} {v : Value} {fuel : Nat} {listed : Array Bool} {a : Act} {w : World} (hi : ops[i]? = some oi) (hs : Region.noSelect ops = true) (hf : Region.free md ops listed i = true) (hr : (Region.ready md ops listed).contains i = true)
    (hQ : ∀ c a w, Q (.panic c) (a.put oi.dst v) w → Q (.panic c) a w) (hC : C w) (hy : ReadsC P ops C oi v a) (h : anyC P md ops C Q fuel (listed.setIfInBounds i true) (a.put oi.dst v) w) : anyC P md ops C Q (fuel + 1) listed a w :=
  anyC_first hi (Region.noSelect_spec hs) hQ fuel listed a w (Region.free_spec hi hf) (by simpa using hr) hC hy h
theorem anyC_done {listed : Array Bool} {a : Act} {w : World} (hr : Region.ready md ops listed = []) (h : Q .normal a w) : ∀ fuel, anyC P md ops C Q fuel listed a w
  | 0 => ⟨hr, h⟩
  | _ + 1 => ⟨fun _ => h, fun i hi => (by rw [hr] at hi; cases hi)⟩
/-- The operations that are ready, one after the other. -/
def stepC (P : Program) (md : Region.Mode) (ops : Array Oper) (C : World → Prop) (Q : Exit → Act → World → Prop) (fuel : Nat) (listed : Array Bool) (a : Act) (w : World) (i : Nat) : Prop :=
  ∀ K : Act → World → Prop, (∀ a' w', C w' → anyC P md ops C Q fuel (listed.setIfInBounds i true) a' w' → K a' w') → ∃ o, ops[i]? = some o ∧ Region.wanted o (yielded ops a.tmps) = true ∧ o.wp P a w K Q
theorem stepC.op {fuel : Nat} {listed : Array Bool} {a : Act} {w : World} {i : Nat} (h : stepC P md ops C Q fuel listed a w i) : wpOp P ops Q i (fun a' w' => C w' ∧ anyC P md ops C Q fuel (listed.setIfInBounds i true) a' w') a w := by
  obtain ⟨o, ho, hw, h⟩ := h (fun a' w' => C w' ∧ anyC P md ops C Q fuel (listed.setIfInBounds i true) a' w') (fun a' w' hc hn => ⟨hc, hn⟩)
  unfold wpOp
  rw [ho]
  simp only
  rw [if_pos hw]
  exact .inl h
theorem anyC_one {i : Nat} {fuel : Nat} {listed : Array Bool} {a : Act} {w : World} (hr : Region.ready md ops listed = [i]) (h : stepC P md ops C Q fuel listed a w i) : anyC P md ops C Q (fuel + 1) listed a w :=
  ⟨fun e => (by rw [hr] at e; cases e), fun j hj => by rw [hr, List.mem_singleton] at hj; subst hj; exact h.op⟩
theorem anyC_two {i k : Nat} {fuel : Nat} {listed : Array Bool} {a : Act} {w : World} (hr : Region.ready md ops listed = [i, k]) (h1 : stepC P md ops C Q fuel listed a w i) (h2 : stepC P md ops C Q fuel listed a w k) : anyC P md ops C Q (fuel + 1) listed a w :=
  ⟨fun e => (by rw [hr] at e; cases e), fun j hj => by
    rw [hr] at hj
    rcases List.mem_cons.1 hj with rfl | hj
    · exact h1.op
    · rw [List.mem_singleton] at hj; subst hj; exact h2.op⟩
theorem anyC_three {i k m : Nat} {fuel : Nat} {listed : Array Bool} {a : Act} {w : World} (hr : Region.ready md ops listed = [i, k, m]) (h1 : stepC P md ops C Q fuel listed a w i) (h2 : stepC P md ops C Q fuel listed a w k) (h3 : stepC P md ops C Q fuel listed a w m) : anyC P md ops C Q (fuel + 1) listed a w :=
  ⟨fun e => (by rw [hr] at e; cases e), fun j hj => by
    rw [hr] at hj
    rcases List.mem_cons.1 hj with rfl | hj
    · exact h1.op
    rcases List.mem_cons.1 hj with rfl | hj
    · exact h2.op
    · rw [List.mem_singleton] at hj; subst hj; exact h3.op⟩
theorem region_anyC {id : Nat} {a : Act} {w : World} {l : List Oper} (C : World → Prop) (hm : P.follows .mixedOrders = true) (h : anyC P .any l.toArray C Q l.length (Array.replicate l.length false) a w.drew) : (Code.region id l.toArray true).wp P Q a w :=
  wp_region_any hm (anyC.any _ _ _ _ (by simpa using h))
/-- What only computes. -/
theorem ReadsC.any {o : Oper} {v : Value} {a : Act} (h : Region.wanted o (yielded ops a.tmps) = true) (hv : ∀ w, (execOp a.eval o).run P w = .ok (.value v) w) : ReadsC P ops C o v a := .inl ⟨h, fun w _ => hv w⟩
end
end Go.Proofs.YtpcffnhbodjpbaaGreatDoor
