/- The walk of the merge's iterator. -/
import Derived.Test.YtponmnabbieafaaGreatDoorRgB
set_option linter.unusedVariables false
set_option linter.unusedSimpArgs false
namespace Go.Proofs.YtponmnabbieafaaGreatDoor
open Go Go.RowKit Go.Shelf Go.Lib Go.Sort
attribute [local go_sem] Oper.semAt_some

theorem wpListIn_append_runR {F : Fence} {n : Nat} {P : Program} (w : World) {ops : Array Oper} {rest : List Oper} {o : Oper} {a : Act} {Q : Exit → Act → World → Prop} (hgd : o.guard = none) (d s : Operand) (dT sT : TypeId)
    (ho : o.op = .call { callee := .builtin .append, args := #[d, s], argTypes := #[dT, sT] }) (x y : Value) (hx : a.eval d = x) (hy : a.eval s = y) (v : Value) (w' : World)
    (hrun : (Builtin.append_ #[dT, sT] o.type #[x, y]).run P w = .ok v w') (h : wpListIn F n P ops Q rest (a.put o.dst v) w') : wpListIn F n P ops Q (o :: rest) a w := by
  refine wpListIn_plain hgd fun K hK' => ?_
  unfold Oper.wpIn
  refine ⟨?_, ?_⟩
  · simp [Oper.about, ho, resolve, Target.leads, Sem.run_pure]
  · rw [Oper.semAt_plain F _ _ (by rw [ho]; intro c hc'; cases hc')]
    simp [execOp, ho, resolve, invoke, builtin, hx, hy, hrun, Result.andThen]
    exact hK' _ _ h

/-- What the merge yields of a set. -/
def MOut (top : Nat) (l : List RB) (ys : List Rng) : Prop := ∃ P, P.Perm ((l.map RB.rng).map (plainR top)) ∧ sortedR P ∧ ys = mrg 4294967295 1 P
def MGo (top : Nat) (l : List RB) (ys : List Rng) (x : Rng) : Prop := ∃ P rest, P.Perm ((l.map RB.rng).map (plainR top)) ∧ sortedR P ∧ ys ++ x :: rest = mrg 4294967295 1 P

theorem cells_obj {W : World} {a : Addr} {v : Value} (h : W.cell? a = some v) : ∃ o : Obj, W.heap[a.block]? = some o ∧ o.isCells = true := by
  unfold World.cell? at h
  cases ho : W.heap[a.block]? with
  | none => simp [ho] at h
  | some o =>
    refine ⟨o, rfl, ?_⟩
    simp only [ho] at h
    cases o <;> first | rfl | cases h
theorem mrg_cons (M nx a c : Nat) (r : List Rng) : mrg M nx (⟨a, c⟩ :: r) = if c < max a nx then mrg M nx r else ⟨max a nx, c⟩ :: (if c = M then [] else mrg M (c + 1) r) := by
  conv => lhs; unfold mrg

end Go.Proofs.YtponmnabbieafaaGreatDoor
