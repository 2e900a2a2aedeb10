/- A slice that the call itself has made and appends to: what it holds, what keeps it, and append onto it from whatever source. More on own rows: where they lie, one cell written, worlds that drew. -/
import Derived.Test.YtpcffnhbodjpbaaGreatDoorBys
import Derived.ArgAppend
import Derived.OwnWalk
import Derived.OneCell
set_option linter.unusedVariables false
set_option linter.unusedSimpArgs false
namespace Go.Proofs.YtpcffnhbodjpbaaGreatDoor
open Go.RowKit

/-- The slice value v of n elements of 'size' cells each, nil or in a block from base on, holds the cells xs; up to its capacity it may be written. -/
def Buf (w : World) (base size : Nat) (v : Value) (n : Nat) (xs : List Value) : Prop :=
  xs.length = n * size ∧ ((v = .slice none 0 0 ∧ n = 0) ∨ ∃ g off cap, v = .slice (some ⟨g, off, none⟩) n cap ∧ base ≤ g ∧ g < w.heap.size ∧ n ≤ cap ∧
    (∀ j u, xs[j]? = some u → w.cell? ⟨g, off + j, none⟩ = some u) ∧ ∀ j, j < cap * size → (w.cell? ⟨g, off + j, none⟩).isSome = true ∧ w.frozen? ⟨g, off + j, none⟩ = false)
/-- The source of an append. -/
def Src (w : World) (size : Nat) (A : Option Addr) (m : Nat) (xs : List Value) : Prop :=
  xs.length = m * size ∧ (∀ u ∈ xs, u.oneCell' = true) ∧ (0 < m → ∃ ad, A = some ad ∧ ∀ j u, xs[j]? = some u → w.cell? (ad.add j) = some u)

section
variable {w w' : World} {base size n : Nat} {v : Value} {xs : List Value}
theorem Buf.nil (w : World) (base size : Nat) : Buf w base size (.slice none 0 0) 0 [] := ⟨by simp, .inl ⟨rfl, rfl⟩⟩
theorem Buf.kept (h : Buf w base size v n xs) (hs : w.heap.size ≤ w'.heap.size) (hk : ∀ k, k < w.heap.size → v.ownBlock = some k → w'.heap[k]? = w.heap[k]?) : Buf w' base size v n xs := by
  refine ⟨h.1, ?_⟩
  rcases h.2 with h2 | ⟨g, off, cap, rfl, hg, hlt, hnc, hc, hf⟩
  · exact .inl h2
  · have e : w'.heap[g]? = w.heap[g]? := hk g hlt rfl
    exact .inr ⟨g, off, cap, rfl, hg, Nat.lt_of_lt_of_le hlt hs, hnc, fun j u hj => (World.cell?_of_block (a := ⟨g, off + j, none⟩) e).trans (hc j u hj),
      fun j hj => by rw [World.cell?_of_block (a := ⟨g, off + j, none⟩) e, World.frozen?_of_block (a := ⟨g, off + j, none⟩) e]; exact hf j hj⟩
theorem Buf.drew (h : Buf w base size v n xs) : Buf w.drew base size v n xs := h
theorem Buf.drewN (h : Buf w base size v n xs) (k : Nat) : Buf (w.drewN k) base size v n xs := h
theorem Buf.past (h : Buf w base size v n xs) (o : Obj) : Buf (w.alloc o) base size v n xs := h.kept (by simp) fun k hk _ => Below.heap_alloc w o k hk
theorem Buf.below {B : Nat} (h : Buf w base size v n xs) (hb : Below B w w') (hB : w.heap.size ≤ B) : Buf w' base size v n xs := h.kept hb.size fun k hk _ => hb.block k (by omega)
theorem Buf.far (h : Buf w base size v n xs) {p : Addr} (hp : v.ownBlock ≠ some p.block) (u : Value) : Buf (w.setCell p u) base size v n xs :=
  h.kept (by simp [World.setCell]) fun k _ he => Below.heap_setCell w p u k (by rintro rfl; exact hp he)
theorem Buf.grown {row : Option Nat} (h : Buf w base size v n xs) (hg : w.grownBy w' row) (hr : ∀ k, v.ownBlock = some k → some k ≠ row) : Buf w' base size v n xs :=
  h.kept hg.size fun k hk he => hg.block k hk (hr k he)
theorem Buf.mono {base' : Nat} (h : Buf w base size v n xs) (hb : base' ≤ base) : Buf w base' size v n xs := by
  refine ⟨h.1, ?_⟩
  rcases h.2 with h2 | ⟨g, off, cap, hv, hg, r⟩
  · exact .inl h2
  · exact .inr ⟨g, off, cap, hv, Nat.le_trans hb hg, r⟩
theorem Buf.of_own {e : TypeId} (h : w.ownsRow base e size v n xs) : Buf w base size v n xs := by
  refine ⟨h.1, ?_⟩
  rcases h.2 with h2 | ⟨g, cap, cur, rfl, hg, hh, hnc, _, hsz, ht⟩
  · exact .inl h2
  · refine .inr ⟨g, 0, cap, rfl, hg, lt_of_block hh, hnc, fun j u hj => ?_, fun j hj => ?_⟩
    · rw [← ht] at hj
      have hj1 : j < n * size := by
        have := (List.getElem?_eq_some_iff.1 hj).1
        rw [List.length_take] at this
        omega
      rw [List.getElem?_take_of_lt hj1] at hj
      simp only [World.cell?, hh, Nat.zero_add]
      simpa using hj
    · simp only [World.cell?, World.frozen?, hh, Nat.zero_add]
      refine ⟨?_, by simp⟩
      rw [Array.getElem?_eq_getElem (by omega)]; rfl
theorem Buf.src (h : Buf w base size v n xs) (h1 : ∀ u ∈ xs, u.oneCell' = true) : ∃ A cap, v = .slice A n cap ∧ n ≤ cap ∧ Src w size A n xs := by
  rcases h.2 with ⟨rfl, rfl⟩ | ⟨g, off, cap, rfl, hg, hlt, hnc, hc, hf⟩
  · exact ⟨none, 0, rfl, Nat.le_refl _, h.1, h1, fun h => absurd h (by omega)⟩
  · exact ⟨_, cap, rfl, hnc, h.1, h1, fun _ => ⟨_, rfl, fun j u hj => by rw [Go.WideShapes.add_plain]; exact hc j u hj⟩⟩
end

theorem setCells_block (b : Nat) : ∀ (vs : List Value) (o : Nat) (w : World) (k : Nat), k ≠ b → (w.setCells b o vs).heap[k]? = w.heap[k]?
  | [], _, _, _, _ => rfl
  | v :: vs, o, w, k, hk => by
    show ((w.setCell ⟨b, o, none⟩ v).setCells b (o + 1) vs).heap[k]? = _
    rw [setCells_block b vs (o + 1) _ k hk]
    exact Below.heap_setCell w _ v k hk
theorem setCells_size (b : Nat) : ∀ (vs : List Value) (o : Nat) (w : World), (w.setCells b o vs).heap.size = w.heap.size
  | [], _, _ => rfl
  | v :: vs, o, w => by
    show ((w.setCell ⟨b, o, none⟩ v).setCells b (o + 1) vs).heap.size = _
    rw [setCells_size b vs (o + 1) _]
    simp [World.setCell]
theorem setCells_rest (b : Nat) : ∀ (vs : List Value) (o : Nat) (w : World), (w.setCells b o vs).os = w.os ∧ (w.setCells b o vs).tape = w.tape ∧ (w.setCells b o vs).output = w.output
  | [], _, _ => ⟨rfl, rfl, rfl⟩
  | v :: vs, o, w => setCells_rest b vs (o + 1) (w.setCell ⟨b, o, none⟩ v)
theorem setCells_grown (w : World) (b o : Nat) (vs : List Value) : w.grownBy (w.setCells b o vs) (some b) :=
  ⟨(setCells_rest b vs o w).1, (setCells_rest b vs o w).2.1, (setCells_rest b vs o w).2.2, by rw [setCells_size]; exact Nat.le_refl _, fun k _ hne => setCells_block b vs o w k (fun e => hne (by rw [e]))⟩
theorem setCells_some (b : Nat) : ∀ (vs : List Value) (o : Nat) (w : World) (q : Addr), (w.cell? q).isSome = true → ((w.setCells b o vs).cell? q).isSome = true
  | [], _, _, _, h => h
  | v :: vs, o, w, q, h => setCells_some b vs (o + 1) _ q (by
      by_cases e : q = ⟨b, o, none⟩
      · subst e
        obtain ⟨u, hu⟩ := Option.isSome_iff_exists.1 h
        rw [World.cell?_setCell_same _ _ _ hu]; rfl
      · rw [World.cell?_setCell_other _ _ _ _ (fun e' => e (by rw [e'])), h])

section
variable {P : Program} (w : World)
theorem run_append_buf (t ty e : TypeId) (i : TypeInfo) (z : Value) (size bytes : Nat) (ht : P.underlying t = some (.slice e)) (hi : P.info? e = some i) (hz : i.zero = some z)
    (hsize : i.size = size) (hby : i.bytes = bytes) (hzs : z.cells.size = size) (hsz : 0 < size)
    (base : Nat) (v : Value) (n : Nat) (xs : List Value) (hbuf : Buf w base size v n xs) (A : Option Addr) (m c : Nat) (news : List Value) (hs : Src w size A m news)
    (h63 : n + m ≤ maxLen) (hbytes : (n + m) * bytes ≤ 140737488355328) (hbase : base ≤ w.heap.size) :
    ∃ v' w', (Builtin.append_ #[t, t] ty #[v, .slice A m c]).run P w = .ok v' w' ∧ Buf w' base size v' (n + m) (xs ++ news) ∧ w.grownBy w' v.ownBlock ∧ (v'.ownBlock = v.ownBlock ∨ ∃ g, v'.ownBlock = some g ∧ w.heap.size ≤ g) := by
  obtain ⟨hnl, h1, hsrc⟩ := hs
  rcases hbuf.2 with ⟨rfl, rfl⟩ | ⟨g, off, cap, rfl, hg, hlt, hnc, hc, hf⟩
  · have hx : xs = [] := List.eq_nil_of_length_eq_zero (by simpa using hbuf.1)
    subst hx
    cases A with
    | none =>
      have hm : m = 0 := by
        rcases Nat.eq_zero_or_pos m with h | h
        · exact h
        · obtain ⟨_, e, _⟩ := hsrc h; cases e
      subst hm
      have hn : news = [] := List.eq_nil_of_length_eq_zero (by simpa using hnl)
      subst hn
      refine ⟨.slice none 0 0, w, ?_, by simpa using hbuf, World.grownBy.refl w _, .inl rfl⟩
      simp [Builtin.append_, run_underlying ht, sizeOf, typeInfo, hi, Builtin.lenOf, Builtin.firstCells]
    | some ad =>
      have hcells : ∀ j u, news[j]? = some u → w.cell? (ad.add j) = some u := by
        intro j u hu
        rcases Nat.eq_zero_or_pos m with h | h
        · subst h
          have hn : news = [] := List.eq_nil_of_length_eq_zero (by simpa using hnl)
          subst hn; simp at hu
        · obtain ⟨ad', e, hc'⟩ := hsrc h
          injection e with e; subst e
          exact hc' j u hu
      obtain ⟨v', w', hrun, hown, hgr, _⟩ := run_append_own (P := P) w w.heap.size t ty e i z size bytes ht hi hz hsize hby hzs hsz (.slice none 0 0) 0 [] (World.ownsRow_nil w _ e size) ad m c news hnl hcells h1 h63 hbytes (Nat.le_refl _)
      refine ⟨v', w', hrun, (Buf.of_own hown).mono hbase, hgr, ?_⟩
      rcases hown.2 with ⟨rfl, _⟩ | ⟨g, cap, cur, rfl, hg, _⟩
      · exact .inl rfl
      · exact .inr ⟨g, rfl, hg⟩
  · have hcellA : ∀ ad, A = some ad → ∀ j u, news[j]? = some u → w.cell? (ad.add j) = some u := by
      intro ad hA j u hu
      rcases Nat.eq_zero_or_pos m with h | h
      · subst h
        have hn : news = [] := List.eq_nil_of_length_eq_zero (by simpa using hnl)
        subst hn; simp at hu
      · obtain ⟨ad', e, hc'⟩ := hsrc h
        rw [hA] at e
        injection e with e; subst e
        exact hc' j u hu
    cases A with
    | none =>
      have hm : m = 0 := by
        rcases Nat.eq_zero_or_pos m with h | h
        · exact h
        · obtain ⟨_, e, _⟩ := hsrc h; cases e
      subst hm
      have hn : news = [] := List.eq_nil_of_length_eq_zero (by simpa using hnl)
      subst hn
      refine ⟨.slice (some ⟨g, off, none⟩) n cap, w, ?_, by simpa using hbuf, World.grownBy.refl w _, .inl rfl⟩
      simp [Builtin.append_, run_underlying ht, sizeOf, typeInfo, hi, Builtin.lenOf, Builtin.firstCells, hnc, storeCells]
    | some ad =>
      by_cases hr : n + m ≤ cap
      · have hle : n * size + news.length ≤ cap * size := by rw [hnl, ← Nat.add_mul]; exact Nat.mul_le_mul_right _ hr
        subst hsize
        have hrun := run_append_room_cells (P := P) w t ty e i ht hi g off n cap ad m c news hnl (hcellA ad rfl) h1 hr
          (fun j hj => by rw [Nat.add_assoc]; exact (hf _ (by omega)).1) (fun j hj => by rw [Nat.add_assoc]; exact (hf _ (by omega)).2)
        refine ⟨_, _, hrun, ⟨by rw [List.length_append, hbuf.1, hnl, Nat.add_mul], .inr ⟨g, off, cap, rfl, hg, by rw [setCells_size]; exact hlt, hr, fun j u hj => ?_, fun j hj => ⟨setCells_some _ _ _ _ _ (hf j hj).1, ?_⟩⟩⟩, setCells_grown w _ _ _, .inl rfl⟩
        · by_cases hjx : j < xs.length
          · rw [List.getElem?_append_left hjx] at hj
            rw [World.cell?_setCells_out g news _ w ⟨g, off + j, none⟩ (fun _ _ => .inl (by have := hbuf.1; show off + j < off + n * i.size; omega))]
            exact hc j u hj
          · rw [List.getElem?_append_right (by omega)] at hj
            obtain ⟨hk, hku⟩ := List.getElem?_eq_some_iff.1 hj
            have hin := World.cell?_setCells_in g news (off + n * i.size) w (fun q hq => by rw [Nat.add_assoc]; exact (hf _ (by omega)).1) (j - xs.length) hk
            rw [show off + j = off + n * i.size + (j - xs.length) by have := hbuf.1; omega, hin, hku]
        · rw [World.frozen?_setCells]; exact (hf j hj).2
      · obtain ⟨v', w', hrun, hown, hgr⟩ := run_append_arg_grows (P := P) w t ty e i z size bytes ht hi hz hsize hby hzs hsz ⟨g, off, none⟩ n cap xs hbuf.1 (fun j u hj => by rw [Go.WideShapes.add_plain]; exact hc j u hj) ad m c news hnl (hcellA ad rfl) (by omega) h63 hbytes
        refine ⟨v', w', hrun, (Buf.of_own hown).mono hbase, ⟨hgr.os, hgr.tape, hgr.output, hgr.size, fun k hk _ => hgr.block k hk (by simp)⟩, ?_⟩
        rcases hown.2 with ⟨rfl, h0⟩ | ⟨g', cap', cur, rfl, hg', _⟩
        · have : n + m = 0 := h0
          omega
        · exact .inr ⟨g', rfl, hg'⟩

theorem wpList_append_run {ops : Array Oper} {rest : List Oper} {o : Oper} {a : Act} {Q : Exit → Act → World → Prop} (hgd : o.guard = none) (d s : Operand) (dT sT : TypeId)
    (ho : o.op = .call { callee := .builtin .append, args := #[d, s], argTypes := #[dT, sT] }) (x y : Value) (hx : a.eval d = x) (hy : a.eval s = y) (v : Value) (w' : World)
    (hrun : (Builtin.append_ #[dT, sT] o.type #[x, y]).run P w = .ok v w') (h : wpList P ops Q rest (a.put o.dst v) w') : wpList P ops Q (o :: rest) a w := by
  refine wpList_plain hgd fun K hK => ?_
  unfold Oper.wp execOp
  simp only [ho, resolve, invoke, builtin, Sem.run_bind, Sem.run_pure, Result.andThen_ok, List.map_toArray, List.map_cons, List.map_nil, hx, hy, hrun]
  exact hK _ _ h
end
end Go.Proofs.YtpcffnhbodjpbaaGreatDoor

namespace Go.Proofs.YtpcffnhbodjpbaaGreatDoor
open Go Go.RowKit

theorem Buf.ownGe {W : World} {base size n : Nat} {v : Value} {xs : List Value} (h : Buf W base size v n xs) (j : Nat) (e : v.ownBlock = some j) : base ≤ j := by
  rcases h.2 with ⟨rfl, _⟩ | ⟨g, off, cap, rfl, h1, _⟩
  · cases e
  · have e' : g = j := by simpa [Value.ownBlock] using e
    omega
theorem Buf.ownLt {W : World} {base size n : Nat} {v : Value} {xs : List Value} (h : Buf W base size v n xs) (j : Nat) (e : v.ownBlock = some j) : j < W.heap.size := by
  rcases h.2 with ⟨rfl, _⟩ | ⟨g, off, cap, rfl, _, h1, _⟩
  · cases e
  · have e' : g = j := by simpa [Value.ownBlock] using e
    omega
theorem drewn_below {W W' : World} {n : Nat} (h : Below n W W') (k : Nat) : Below n W (W'.drewN k) := h.trans ⟨rfl, rfl, rfl, Nat.le_refl _, fun _ _ => rfl⟩
/-- A cell of an own row is written. -/
theorem Buf.setAt {W : World} {base size n g off cap : Nat} {xs : List Value} (h : Buf W base size (.slice (some ⟨g, off, none⟩) n cap) n xs) (j : Nat) (hj : j < n * size) (u : Value) :
    Buf (W.setCell ⟨g, off + j, none⟩ u) base size (.slice (some ⟨g, off, none⟩) n cap) n (xs.set j u) := by
  refine ⟨by rw [List.length_set]; exact h.1, ?_⟩
  rcases h.2 with ⟨e, _⟩ | ⟨g', off', cap', e, h1, h2, h3, h4, h5⟩
  · cases e
  · injection e with e1 _ e3
    injection e1 with e1
    injection e1 with e4 e5 _
    subst e4 e5 e3
    have hjc : j < cap * size := Nat.lt_of_lt_of_le hj (Nat.mul_le_mul_right _ h3)
    refine .inr ⟨g, off, cap, rfl, h1, by simpa [World.setCell] using h2, h3, fun i v hi => ?_, fun i hi => ?_⟩
    · rw [List.getElem?_set] at hi
      by_cases e : j = i
      · subst e
        rw [if_pos rfl, if_pos (by rw [h.1]; exact hj)] at hi
        injection hi with hi
        subst hi
        obtain ⟨o, ho⟩ := Option.isSome_iff_exists.1 (h5 j hjc).1
        exact World.cell?_setCell_same _ _ _ ho
      · rw [if_neg e] at hi
        rw [World.cell?_setCell_other _ _ _ _ (fun e' => e (by injection e' with _ e' _; omega))]
        exact h4 i v hi
    · rw [World.frozen?_setCell]
      refine ⟨?_, (h5 i hi).2⟩
      by_cases e : j = i
      · subst e
        obtain ⟨o, ho⟩ := Option.isSome_iff_exists.1 (h5 j hi).1
        rw [World.cell?_setCell_same _ _ _ ho]; rfl
      · rw [World.cell?_setCell_other _ _ _ _ (fun e' => e (by injection e' with _ e' _; omega))]
        exact (h5 i hi).1
end Go.Proofs.YtpcffnhbodjpbaaGreatDoor
