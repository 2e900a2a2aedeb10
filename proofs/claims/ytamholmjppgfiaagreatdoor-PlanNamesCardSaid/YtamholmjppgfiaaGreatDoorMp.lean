/- A map that the call itself has made, known entry by entry: made, stored into, looked up, for elements of whatever kind. -/
import Derived.Test.YtamholmjppgfiaaGreatDoorBase
import Derived.Maps.OwnOps
set_option linter.unusedVariables false
set_option linter.unusedSimpArgs false
namespace Go.Proofs.YtamholmjppgfiaaGreatDoor
open Go.RowKit Go.ChangeMaps

/-- Keys of one plain kind. -/
structure Kp (P : Program) (k : TypeId) {α : Type} [DecidableEq α] (key : α → Value) : Prop where
  desc : ∃ d, P.underlying k = some d ∧ (∀ a b, Instr.sameNow d (key a) (key b) = some (decide (a = b)))
  check : ∀ (em : Bool) (w : World) (a : α), (Instr.checkKey em 10000 k (key a)).run P w = .ok () w
  stays : ∀ (w : World) (a : α), (Instr.keyThatStays (key a) (key a)).run P w = .ok (key a) w

theorem ba_beq (a b : ByteArray) : (a == b) = decide (a = b) := by
  cases a with | mk x => cases b with | mk y =>
  rw [show ((ByteArray.mk x) == (ByteArray.mk y)) = (x == y) from rfl, Bool.eq_iff_iff, beq_iff_eq, decide_eq_true_eq]
  exact ⟨fun h => by rw [h], fun h => by injection h⟩
theorem Kp.int {P : Program} {k : TypeId} {q : IntKind} (h : P.underlying k = some (.int q)) : Kp P k (Value.int q) :=
  ⟨⟨_, h, fun a b => by simp [Instr.sameNow]; rfl⟩, fun em w a => by rw [show (10000 : Nat) = 9999 + 1 from rfl, Instr.checkKey]; simp [run_underlying h], fun w a => by simp [Instr.keyThatStays, Instr.sameBits]⟩
theorem Kp.str {P : Program} {k : TypeId} (h : P.underlying k = some .string) : Kp P k Value.string :=
  ⟨⟨_, h, fun a b => by simp only [Instr.sameNow, ba_beq]⟩, fun em w a => by rw [show (10000 : Nat) = 9999 + 1 from rfl, Instr.checkKey]; simp [run_underlying h], fun w a => by
    have : (a == a) = true := by rw [ba_beq]; simp
    simp [Instr.keyThatStays, Instr.sameBits, this]⟩

section
variable {α : Type} {key : α → Value}
/-- Block b is a map whose entries, in the order of their making, are l. -/
def KMap (w : World) (b : Nat) (key : α → Value) (l : List (α × Value)) : Prop :=
  ∃ es clock, w.heap[b]? = some (.map es clock) ∧ es.toList.map (fun e => (e.key, e.val)) = l.map fun p => (key p.1, p.2)
def lookK [DecidableEq α] (l : List (α × Value)) (a : α) : Option Value := (l.find? fun p => decide (a = p.1)).map (·.2)

theorem KMap.lt {w : World} {b : Nat} {l : List (α × Value)} (h : KMap w b key l) : b < w.heap.size := by
  obtain ⟨es, clock, hb, _⟩ := h
  exact (Array.getElem?_eq_some_iff.1 hb).1
theorem KMap.made (w : World) : KMap (w.alloc (.map #[] 0)) w.heap.size key [] := ⟨#[], 0, heap_alloc_new w _, rfl⟩
theorem KMap.drew {w : World} {b : Nat} {l : List (α × Value)} (h : KMap w b key l) : KMap w.drew b key l := h
theorem KMap.drewN {w : World} {b : Nat} {l : List (α × Value)} (h : KMap w b key l) (n : Nat) : KMap (w.drewN n) b key l := h
theorem KMap.grown {w w' : World} {b : Nat} {row : Option Nat} {l : List (α × Value)} (h : KMap w b key l) (hg : w.grownBy w' row) (hne : some b ≠ row) : KMap w' b key l := by
  have hlt := h.lt
  obtain ⟨es, clock, hb, he⟩ := h
  exact ⟨es, clock, (hg.block b hlt hne).trans hb, he⟩
theorem KMap.below {w w' : World} {b B : Nat} {l : List (α × Value)} (h : KMap w b key l) (hb : Below B w w') (hB : b < B) : KMap w' b key l := by
  obtain ⟨es, clock, hm, he⟩ := h
  exact ⟨es, clock, (hb.block b hB).trans hm, he⟩
theorem KMap.past {w : World} {b : Nat} {l : List (α × Value)} (h : KMap w b key l) (o : Obj) : KMap (w.alloc o) b key l := by
  have hlt := h.lt
  obtain ⟨es, clock, hm, he⟩ := h
  exact ⟨es, clock, (Below.heap_alloc w o b hlt).trans hm, he⟩
theorem KMap.far {w : World} {b : Nat} {l : List (α × Value)} (h : KMap w b key l) {p : Addr} (hp : b ≠ p.block) (u : Value) : KMap (w.setCell p u) b key l := by
  obtain ⟨es, clock, hm, he⟩ := h
  exact ⟨es, clock, (Below.heap_setCell w p u b hp).trans hm, he⟩

variable [DecidableEq α]
theorem findNow_gen {d : TypeDesc} (hd : ∀ a b, Instr.sameNow d (key a) (key b) = some (decide (a = b))) (a : α) : ∀ (es : List MapEntry) (l : List (α × Value)) (i : Nat), es.map (fun e => (e.key, e.val)) = l.map (fun p => (key p.1, p.2)) →
    ∃ r, Instr.findNow d (key a) es i = some r ∧ r.map (·.2) = lookK l a ∧ (∀ j v, r = some (j, v) → i ≤ j ∧ ∃ p, l[j - i]? = some p ∧ p.1 = a)
  | [], [], i, _ => ⟨none, rfl, rfl, by simp⟩
  | [], _ :: _, _, h => by simp at h
  | _ :: _, [], _, h => by simp at h
  | e :: es, p :: l, i, h => by
    simp only [List.map_cons, List.cons.injEq, Prod.mk.injEq] at h
    obtain ⟨⟨hk, hv⟩, ht⟩ := h
    unfold Instr.findNow
    rw [hk, hd]
    by_cases hap : a = p.1
    · refine ⟨some (i, e.val), by simp [hap], by simp [lookK, hap, hv], ?_⟩
      rintro j v hj
      simp only [Option.some.injEq, Prod.mk.injEq] at hj
      obtain ⟨rfl, _⟩ := hj
      exact ⟨Nat.le_refl _, p, by simp, hap.symm⟩
    · obtain ⟨r, h1, h2, h3⟩ := findNow_gen hd a es l (i + 1) ht
      refine ⟨r, by simp [hap, h1], by rw [h2]; simp [lookK, hap], ?_⟩
      intro j v hj
      obtain ⟨hij, q, hq, hqa⟩ := h3 j v hj
      refine ⟨by omega, q, ?_, hqa⟩
      rw [show j - i = (j - (i + 1)) + 1 by omega]
      simpa using hq

variable {P : Program} {t k e : TypeId}
theorem KMap.find {w : World} {b : Nat} {l : List (α × Value)} (K : Kp P k key) (a : α) {es : List MapEntry} (he : es.map (fun e => (e.key, e.val)) = l.map fun p => (key p.1, p.2)) :
    ∃ r, (Instr.findKey k (key a) es).run P w = .ok r w ∧ r.map (·.2) = lookK l a ∧ (∀ j v, r = some (j, v) → ∃ p, l[j]? = some p ∧ p.1 = a) := by
  obtain ⟨d, hd, hs⟩ := K.desc
  obtain ⟨r, h1, h2, h3⟩ := findNow_gen hs a es l 0 he
  refine ⟨r, by simp [Instr.findKey, run_underlying hd, h1], h2, fun j v hj => ?_⟩
  obtain ⟨_, p, hp, hpa⟩ := h3 j v hj
  exact ⟨p, by simpa using hp, hpa⟩

/-- 'v, ok := m[k]' -/
theorem KMap.look {w : World} {b : Nat} {l : List (α × Value)} (h : KMap w b key l) (K : Kp P k key) (ht : P.underlying t = some (.map k e)) {z : Value} (hz : (zeroValue e).run P w = .ok z w) (a : α) :
    (Instr.lookup t (.map (some b)) (key a) true).run P w = .ok (.tuple #[(lookK l a).getD z, .bool (lookK l a).isSome]) w := by
  obtain ⟨es, clock, hb, he⟩ := h
  obtain ⟨r, h1, h2, _⟩ := KMap.find (w := w) (b := b) K a he
  rw [← h2]
  cases r with
  | none => simp [Instr.lookup, run_underlying ht, MapKept.run_getObj_map hb, K.check, h1, hz, Result.andThen]
  | some r => simp [Instr.lookup, run_underlying ht, MapKept.run_getObj_map hb, K.check, h1, Result.andThen]
/-- 'm[k]' -/
theorem KMap.look1 {w : World} {b : Nat} {l : List (α × Value)} (h : KMap w b key l) (K : Kp P k key) (ht : P.underlying t = some (.map k e)) {z : Value} (hz : (zeroValue e).run P w = .ok z w) (a : α) :
    (Instr.lookup t (.map (some b)) (key a) false).run P w = .ok ((lookK l a).getD z) w := by
  obtain ⟨es, clock, hb, he⟩ := h
  obtain ⟨r, h1, h2, _⟩ := KMap.find (w := w) (b := b) K a he
  rw [← h2]
  cases r with
  | none => simp [Instr.lookup, run_underlying ht, MapKept.run_getObj_map hb, K.check, h1, hz, Result.andThen]
  | some r => simp [Instr.lookup, run_underlying ht, MapKept.run_getObj_map hb, K.check, h1, Result.andThen]

/-- The list behind a store. -/
def putK (l : List (α × Value)) (a : α) (v : Value) : List (α × Value) :=
  if (lookK l a).isSome then l.modify (l.findIdx fun p => decide (a = p.1)) (fun p => (p.1, v)) else l ++ [(a, v)]
theorem putK_new {l : List (α × Value)} {a : α} (v : Value) (h : lookK l a = none) : putK l a v = l ++ [(a, v)] := by simp [putK, h]

/-- 'm[k] = v', k a new key -/
theorem KMap.put {w : World} {b : Nat} {l : List (α × Value)} (h : KMap w b key l) (K : Kp P k key) (ht : P.underlying t = some (.map k e)) (a : α) (v : Value) (hn : lookK l a = none) :
    ∃ w', (Instr.mapUpdate t (.map (some b)) (key a) v).run P w = .ok () w' ∧ KMap w' b key (l ++ [(a, v)]) ∧ w.grownBy w' (some b) := by
  obtain ⟨es, clock, hb, he⟩ := h
  obtain ⟨r, h1, h2, _⟩ := KMap.find (w := w) (b := b) K a he
  rw [hn] at h2
  obtain rfl : r = none := by cases r <;> simp_all
  refine ⟨setBlock w b (.map (es.push { key := key a, val := v, born := clock }) (clock + 1)), by simp [Instr.mapUpdate, run_underlying ht, MapKept.run_getObj_map hb, K.check, h1, MapKept.run_setObj_map _ hb, Result.andThen, setBlock],
    ⟨_, _, heap_setBlock_same hb _, by simp [he]⟩, ⟨rfl, rfl, rfl, by simp [setBlock], fun i _ hi => heap_setBlock_other hb _ (fun e => hi (by rw [e]))⟩⟩
end

theorem wpList_lookup_run {P : Program} {w : World} {ops : Array Oper} {rest : List Oper} {o : Oper} {a : Act} {Q : Exit → Act → World → Prop} (hg : o.guard = none) (m x : Operand) (t : TypeId) (c : Bool) (hop : o.op = Op.lookup t m x c)
    (mv key v : Value) (hm : a.eval m = mv) (hx : a.eval x = key) (w' : World) (hrun : (Instr.lookup t mv key c).run P w = .ok v w') (h : wpList P ops Q rest (a.put o.dst v) w') : wpList P ops Q (o :: rest) a w := by
  refine wpList_plain hg fun K' hK' => ?_
  unfold Oper.wp
  simp [execOp, hop, hm, hx, hrun, Result.andThen]
  exact hK' _ _ h
theorem wpList_update_run {P : Program} {w : World} {ops : Array Oper} {rest : List Oper} {o : Oper} {a : Act} {Q : Exit → Act → World → Prop} (hg : o.guard = none) (m x v : Operand) (t : TypeId) (hop : o.op = Op.mapUpdate t m x v)
    (mv key val : Value) (hm : a.eval m = mv) (hx : a.eval x = key) (hv : a.eval v = val) (w' : World) (hrun : (Instr.mapUpdate t mv key val).run P w = .ok () w') (h : wpList P ops Q rest (a.put o.dst undef) w') : wpList P ops Q (o :: rest) a w := by
  refine wpList_plain hg fun K' hK' => ?_
  unfold Oper.wp
  simp [execOp, hop, hm, hx, hv, hrun, Result.andThen]
  exact hK' _ _ h
theorem wpList_insert_run {P : Program} {w : World} {ops : Array Oper} {rest : List Oper} {o : Oper} {a : Act} {Q : Exit → Act → World → Prop} (hg : o.guard = none) (m x v : Operand) (t : TypeId) (hop : o.op = Op.insert t m x v)
    (mv key val : Value) (hm : a.eval m = mv) (hx : a.eval x = key) (hv : a.eval v = val) (w' : World) (hrun : (Instr.mapUpdate t mv key val).run P w = .ok () w') (h : wpList P ops Q rest (a.put o.dst undef) w') : wpList P ops Q (o :: rest) a w := by
  refine wpList_plain hg fun K' hK' => ?_
  unfold Oper.wp
  simp [execOp, hop, hm, hx, hv, hrun, Result.andThen]
  exact hK' _ _ h
end Go.Proofs.YtamholmjppgfiaaGreatDoor
