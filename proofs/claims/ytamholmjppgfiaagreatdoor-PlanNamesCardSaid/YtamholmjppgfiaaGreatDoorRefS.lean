/- The reference's Sorted: insertion into an ascending list. -/
import Derived.Test.YtamholmjppgfiaaGreatDoorResW
import Derived.Test.YtamholmjppgfiaaGreatDoorUniq
set_option linter.unusedVariables false
set_option linter.unusedSimpArgs false
namespace Go.Proofs.YtamholmjppgfiaaGreatDoor
open Go Go.RowKit Go.Shelf Go.Lib Go.Sort

theorem operAppend {P : Program} {o : Oper} {a : Act} {w : World} {K : Act → World → Prop} {Q : Exit → Act → World → Prop} (d s : Operand) (dT sT : TypeId)
    (ho : o.op = .call { callee := .builtin .append, args := #[d, s], argTypes := #[dT, sT] }) (x y : Value) (hx : a.eval d = x) (hy : a.eval s = y) (v : Value) (w' : World)
    (hrun : (Builtin.append_ #[dT, sT] o.type #[x, y]).run P w = .ok v w') (h : K (a.put o.dst v) w') : Oper.wp P o a w K Q := by
  unfold Oper.wp execOp
  simp only [ho, resolve, invoke, builtin, Sem.run_bind, Sem.run_pure, Result.andThen_ok, List.map_toArray, List.map_cons, List.map_nil, hx, hy, hrun]
  exact h
/-- What the insertion's appends hold on to: what lay at its start lies still. -/
theorem src_of {base n : Nat} {Wr W : World} {g off cap : Nat} {xs : List Value} (h : Buf Wr base 1 (.slice (some ⟨g, off, none⟩) n cap) n xs) (hb : Below Wr.heap.size Wr W) (h1 : ∀ u ∈ xs, u.oneCell' = true) (a : Nat) (ha : a ≤ n) :
    Src W 1 (some ⟨g, off, none⟩) a (xs.take a) ∧ Src W 1 (some ⟨g, off + a, none⟩) (n - a) (xs.drop a) := by
  have hn := h.1
  rcases h.2 with ⟨e, _⟩ | ⟨g', off', cap', e, h2, h3, h4, h5, -⟩
  · cases e
  · injection e with e1 _ e3
    injection e1 with e1
    injection e1 with e4 e5 _
    subst e4 e5 e3
    have hc : ∀ j u, xs[j]? = some u → W.cell? ⟨g, off + j, none⟩ = some u := fun j u hj => (hb.cell (p := ⟨g, off + j, none⟩) h3).trans (h5 j u hj)
    refine ⟨⟨by rw [List.length_take]; omega, fun u hu => h1 u (List.mem_of_mem_take hu), fun _ => ⟨_, rfl, fun j u hj => ?_⟩⟩, ⟨by rw [List.length_drop]; omega, fun u hu => h1 u (List.mem_of_mem_drop hu), fun _ => ⟨_, rfl, fun j u hj => ?_⟩⟩⟩
    · rw [Go.WideShapes.add_plain]
      refine hc j u ?_
      have hja : j < a := by
        have := (List.getElem?_eq_some_iff.1 hj).1
        rw [List.length_take] at this
        omega
      rwa [List.getElem?_take_of_lt hja] at hj
    · rw [Go.WideShapes.add_plain]
      rw [List.getElem?_drop] at hj
      have := hc (a + j) u hj
      rw [← Nat.add_assoc] at this
      exact this
theorem src_none (W : World) (A : Option Addr) : Src W 1 A 0 [] := ⟨rfl, by simp, fun h => absurd h (by omega)⟩
/-- One append of the chain: v holds xs, the source ys. -/
theorem chain_run {base n m : Nat} {v : Value} {xs ys : List Value} {W : World} {A : Option Addr} {c : Nat} (h : Buf W base 1 v n xs) (hs : Src W 1 A m ys) (hb : base ≤ W.heap.size) (hl : n + m ≤ 1048577) :
    ∃ v' w', (Builtin.append_ #[52, 52] 52 #[v, .slice A m c]).run Tryz.prog W = .ok v' w' ∧ Buf w' base 1 v' (n + m) (xs ++ ys) ∧ W.grownBy w' v.ownBlock ∧ Below base W w' ∧ (∀ k, v'.ownBlock = some k → v.ownBlock = some k ∨ W.heap.size ≤ k) := by
  obtain ⟨i0, hi, hz0, hz1, hz2⟩ := info_parts infoU32
  obtain ⟨v', w', hrun, hb', hgr, hrw⟩ := run_append_buf (P := Tryz.prog) W 52 52 34 i0 _ 1 4 Tryz.underlying52 hi hz0 hz1 hz2 rfl (by decide) base v n xs h A m c ys hs (by unfold maxLen; omega) (by omega) hb
  refine ⟨v', w', hrun, hb', hgr, (Below.refl _ W).grown hgr hb (fun k e => ?_), fun k e => ?_⟩
  · rcases h.2 with ⟨rfl, _⟩ | ⟨g, off, cap, rfl, h1, _⟩
    · cases e
    · have e' : g = k := by simpa [Value.ownBlock] using e
      omega
  · rcases hrw with e2 | ⟨g, e2, hg⟩
    · exact .inl (e2 ▸ e)
    · rw [e2] at e
      injection e with e
      exact .inr (by omega)
theorem src_one {W : World} {g : Nat} {x : Value} {t : TypeId} (h : Boxed W g t x) (hx : x.oneCell' = true := by rfl) : Src W 1 (some ⟨g, 0, none⟩) 1 [x] :=
  ⟨rfl, fun u hu => by simp at hu; subst hu; exact hx, fun _ => ⟨_, rfl, fun j u hj => by
    rw [Go.WideShapes.add_plain]
    cases j with
    | zero => simp at hj; subst hj; exact h.cell
    | succ j => simp at hj⟩⟩
theorem own_lt {W : World} {base n : Nat} {v : Value} {xs : List Value} (h : Buf W base 1 v n xs) (j : Nat) (e : v.ownBlock = some j) : j < W.heap.size := by
  rcases h.2 with ⟨rfl, _⟩ | ⟨g, off, cap, rfl, _, h1, _⟩
  · cases e
  · have e' : g = j := by simpa [Value.ownBlock] using e
    omega
theorem own_ne {v v' : Value} {ga g1 n : Nat} (ow : ∀ j, v'.ownBlock = some j → v.ownBlock = some j ∨ n ≤ j) (hv : v.ownBlock = some ga) (hne : ga ≠ g1) (hlt : g1 < n) : ∀ j, v'.ownBlock = some j → j ≠ g1 := fun j e => by
  rcases ow j e with e2 | e2
  · rw [hv] at e2
    injection e2 with e2
    omega
  · omega
theorem gen_world {M : World → Prop} {w W0 : World} (h : ∀ W, Below w.heap.size w W → M W) (hF : Below w.heap.size w W0) : M W0 := h _ hF
theorem empty_buf {W : World} {base : Nat} (hb : base ≤ W.heap.size) (t : TypeId) : Buf (W.alloc (.cells #[] t)) base 1 (.slice (some ⟨W.heap.size, 0, none⟩) 0 0) 0 [] :=
  ⟨rfl, .inr ⟨W.heap.size, 0, 0, rfl, hb, by rw [World.size_alloc]; omega, Nat.le_refl _, by simp, by simp⟩⟩

end Go.Proofs.YtamholmjppgfiaaGreatDoor
