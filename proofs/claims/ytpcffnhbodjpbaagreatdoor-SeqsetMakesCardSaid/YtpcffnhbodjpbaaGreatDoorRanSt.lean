/- A range over a function whose iterator keeps a state of its own in memory; the body ends normally. -/
import Derived.RangeFuncNested
import Derived.RangeFuncBound
import Derived.RangeFuncCalls
import Derived.RangeFuncLeaves
set_option linter.unusedVariables false
set_option linter.unusedSimpArgs false
namespace Go.Proofs.YtpcffnhbodjpbaaGreatDoor
open Go Go.RowKit
variable {F : Fence} {n : Nat} {P : Program}

/-- How a round's body is left: at its end alone. -/
def endPost (W : World) (R : World → Prop) : Exit → Act → World → Prop
  | .normal, _, W' => KeepsOthers W W' ∧ R W'
  | _, _, _ => False

theorem wpIn_rangeFunc_state {ι α : Type} {g : Operand} {ps : Array Tmp} {assign body : Code} {Q : Exit → Act → World → Prop} {a : Act} {w : World}
    (hro : F.round = none) (h1 : 1 ≤ n) {gf : Nat} {lb : Array Value} (hg : a.eval g = .func (.func gf) #[] lb) (hFg : F.fn gf) (eg : ∀ args w, (callFunc gf args).run P w = .ok (.enter gf args) w)
    {encs : α → Array Value} (hps : ∀ x, (encs x).size = ps.size)
    (J : ι → World → Prop) (Y : ι → α → ι → Prop) (S : ι → Prop) (i0 : ι)
    (hJ : ∀ (i : ι) (W : World) (l : Nat) (o o' : Obj), w.heap.size ≤ l → W.heap[l]? = some o → o.isCells = false → J i W → J i (W.putObj l o'))
    (h0 : ∀ r, J i0 ((w.alloc (.deferred (some []))).alloc (.loop r))) (Jm : ι → α → ι → Act → World → Prop)
    (hJm : ∀ (i : ι) (x : α) (i' : ι) (a1 : Act) (W : World) (l : Nat) (o o' : Obj), w.heap.size ≤ l → W.heap[l]? = some o → o.isCells = false → Jm i x i' a1 W → Jm i x i' a1 (W.putObj l o'))
    (hassign : ∀ (l : Nat) (i : ι) (x : α) (i' : ι) (W : World) (K : Act → World → Prop), J i W → Y i x i' → w.heap.size + 1 < W.heap.size → (∀ a1 W1, KeepsOthers W W1 → Jm i x i' a1 W1 → K a1 W1) →
      assign.wpIn (F.inRound l) (n - 1 - 1) P (Exit.then K (fun _ _ _ => False)) { tmps := (ps.zip (encs x)).foldl (fun t (p, v) => t.setIfInBounds p v) a.tmps, defers := [] } W)
    (hbody : ∀ (l : Nat) (i : ι) (x : α) (i' : ι) (a1 : Act) (W : World), Jm i x i' a1 W → w.heap.size + 1 < W.heap.size → body.wpIn (F.inRound l) (n - 1 - 1) P (endPost W (J i')) a1 W)
    (hit : ∀ (R : World → Prop) (W1 : World), (∀ W W', R W → (∀ k, k = w.heap.size ∨ k = w.heap.size + 1 → W'.heap[k]? = W.heap[k]?) → R W') → (∀ W, R W → w.heap.size + 1 < W.heap.size) →
      (∀ i x i' W, J i W → R W → Y i x i' → YieldAt F (n - 1 - 1) P (w.heap.size + 1) (encs x) W fun e W' => e = .returned (.bool true) ∧ J i' W' ∧ R W') →
      J i0 W1 → R W1 → CallsIn F (n - 1) P gf (#[.func (.yield (w.heap.size + 1)) #[] #[]] ++ lb) W1 fun e W' => (∃ v, e = .returned v) ∧ ∃ i, S i ∧ J i W' ∧ R W')
    (hdone : ∀ (i : ι) (W : World), S i → J i W → W.heap[w.heap.size]? = some (.deferred (some [])) → Q .normal { a with defers := { target := .collected w.heap.size, args := #[] } :: a.defers } W) :
    (Code.rangeFunc g ps assign body).wpIn F n P Q a w := by
  refine wpIn_rangeFunc ?_
  intro fn hfn
  rw [hro]
  obtain ⟨rec, hrec⟩ : ∃ rec : LoopState → Option Code → Loop, rec = fun st pe => { state := st, pending := pe, fn, tmps := a.tmps, params := ps, assign, body, defers := w.heap.size } := ⟨_, rfl⟩
  obtain ⟨W1, hW1⟩ : ∃ W1, (w.alloc (.deferred (some []))).alloc (.loop (rec .ready none)) = W1 := ⟨_, rfl⟩
  have hL1 : W1.heap[w.heap.size + 1]? = some (.loop (rec .ready none)) := by
    rw [← hW1]; have := World.alloc_heap_new (w.alloc (.deferred (some []))) (.loop (rec .ready none)); rwa [World.size_alloc] at this
  have hK1 : W1.heap[w.heap.size]? = some (.deferred (some [])) := by
    rw [← hW1]; exact (Below.heap_alloc _ _ _ (by simp)).trans (World.alloc_heap_new w _)
  have hI1 : J i0 W1 := by rw [← hW1]; exact h0 _
  refine ⟨w.heap.size + 1, [{ target := .collected w.heap.size, args := #[] }], W1, { target := .fn (.func gf) lb, args := #[.func (.yield (w.heap.size + 1)) #[] #[]] }, W1, gf,
    #[.func (.yield (w.heap.size + 1)) #[] #[]] ++ lb, W1, ?_, ?_, ?_, ?_, fun _ => h1, ?_⟩
  · rw [← hW1, hrec]; exact run_enterLoop_outer _ _ _ _ _
  · simp only [resolve, hg]
    simp [go_sem]
  · intro f' hf'; simp [Target.leads] at hf'; subst hf'; exact hFg
  · simp [invoke, go_sem, eg]
  · refine (hit (fun W => W.heap[w.heap.size + 1]? = some (.loop (rec .ready none)) ∧ W.heap[w.heap.size]? = some (.deferred (some []))) W1
      (fun W W' h hk => ⟨(hk _ (.inr rfl)).trans h.1, (hk _ (.inl rfl)).trans h.2⟩) (fun W h => (Array.getElem?_eq_some_iff.1 h.1).1) ?_ hI1 ⟨hL1, hK1⟩).mono ?_
    · rintro i x i' W hi ⟨hl, hk⟩ hy0
      have hlt : w.heap.size + 1 < W.heap.size := (Array.getElem?_eq_some_iff.1 hl).1
      have hy := run_yield (P := P) (args := encs x) hl (by rw [hrec]; exact hps x)
      rw [hrec] at hy
      refine ⟨fn, _, assign, body, hy, roundIn_of_wpIn hfn (hassign _ i x i' W _ hi hy0 hlt ?_)⟩
      intro a1 Wm hkm him
      replace hl := hkm.same _ _ hl rfl
      replace hk := hkm.same _ _ hk rfl
      replace hlt : w.heap.size + 1 < Wm.heap.size := (Array.getElem?_eq_some_iff.1 hl).1
      refine ⟨_, run_beginRound hl (by rw [hrec]), ?_⟩
      have hl2 : (Wm.putObj (w.heap.size + 1) (.loop { rec .ready none with state := .busy })).heap[w.heap.size + 1]? = some (.loop { rec .ready none with state := .busy }) := World.putObj_heap_same hlt
      have hk2 : (Wm.putObj (w.heap.size + 1) (.loop { rec .ready none with state := .busy })).heap[w.heap.size]? = some (.deferred (some [])) := (World.putObj_heap_other (by omega)).trans hk
      refine wpIn_mono (hbody _ i x i' a1 _ (hJm _ _ _ _ _ _ _ _ (by omega) hl rfl him) (Array.getElem?_eq_some_iff.1 hl2).1) ?_
      rintro e a3 W3 hp
      cases e with
      | normal =>
        obtain ⟨hk3, hi3⟩ := hp
        have hl3 := hk3.same _ _ hl2 rfl
        have hr := run_endRound (P := P) none hl3
        rw [hrec] at hr
        refine ⟨_, _, hr, rfl, hJ _ _ _ _ _ (by omega) hl3 rfl hi3, ?_, (World.putObj_heap_other (by omega)).trans (hk3.same _ _ hk2 rfl)⟩
        rw [hrec]
        exact World.putObj_heap_same (Array.getElem?_eq_some_iff.1 hl3).1
      | _ => exact hp.elim
    · rintro e W2 ⟨⟨v, rfl⟩, i, hS, hi, hl, hk⟩
      exact ⟨none, _, by have := run_endLoop (P := P) hl (by rw [hrec]; simp); rw [hrec] at this; exact this, hdone i _ hS (hJ _ _ _ _ _ (by omega) hl rfl hi) ((World.putObj_heap_other (by omega)).trans hk)⟩
end Go.Proofs.YtpcffnhbodjpbaaGreatDoor
