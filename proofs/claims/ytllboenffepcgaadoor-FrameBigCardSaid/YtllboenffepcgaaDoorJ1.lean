/- Plain laws on the frames of a stream. · Plain lemmas on slices of bytes in memory: what they read as, and what keeps it. · A slice that the call itself has made and appends to: what it holds, what keeps it, and append onto it from whatever source. · A row of bytes that may be written. · Frames in memory: rows of bytes in blocks of a kind; lists of frames. · The walks of strings.Builder's writers at a builder that the call itself has made. · Plain laws on reading the forms of strings: what a quoted and a literal form at an offset come to. -/
import Derived.Test.YtllboenffepcgaaDoorJ0
import Derived.Lib.SlBytesRowKit
import Derived.ArgAppend
import Derived.OwnWalk
import Derived.OneCell
import Derived.Lib.UnsafeStr
import Derived.Deep.RegionHeld
import Derived.Test.YtllboenffepcgaaDoorProg
import Derived.Lib.Walk
import Derived.Lib.Builder
import Derived.Lib.AppendStr
import Derived.Laws.Externs
set_option linter.unusedVariables false
set_option linter.unusedSimpArgs false
namespace Go.Proofs.YtllboenffepcgaaDoor
open Go.Lib

structure Frm where
  kind : Int
  data : List UInt8

/-- The place of the first line end. -/
def findE : List UInt8 → Option Nat
  | [] => none
  | [_] => none
  | a :: b :: r => if a = 13 ∧ b = 10 then some 0 else (findE (b :: r)).map (· + 1)
theorem findE_some : ∀ {l : List UInt8} {e : Nat}, findE l = some e → e + 1 < l.length ∧ l[e]? = some 13 ∧ l[e + 1]? = some 10
  | [], _, h => by cases h
  | [_], _, h => by cases h
  | a :: b :: r, e, h => by
    unfold findE at h
    split at h
    · rename_i hab
      injection h with h
      subst h
      exact ⟨by simp, by simp [hab.1], by simp [hab.2]⟩
    · cases h2 : findE (b :: r) with
      | none => rw [h2] at h; cases h
      | some e2 =>
        rw [h2] at h
        injection h with h
        subst h
        obtain ⟨h3, h4, h5⟩ := findE_some h2
        exact ⟨by simp only [List.length_cons] at h3 ⊢; omega, by simpa using h4, by simpa using h5⟩
theorem findE_app : ∀ {l : List UInt8} {e : Nat} (x : List UInt8), findE l = some e → findE (l ++ x) = some e
  | [], _, _, h => by cases h
  | [_], _, _, h => by cases h
  | a :: b :: r, e, x, h => by
    unfold findE at h
    show findE (a :: b :: (r ++ x)) = some e
    unfold findE
    split at h
    · rename_i hab
      rw [if_pos hab]; exact h
    · rename_i hab
      rw [if_neg hab]
      cases h2 : findE (b :: r) with
      | none => rw [h2] at h; cases h
      | some e2 =>
        rw [h2] at h
        have := findE_app x h2
        simp only [List.cons_append] at this
        rw [this]; exact h
/-- No line end begins ahead of the place. -/
theorem findE_skip : ∀ (l r : List UInt8), (∀ b ∈ l, b ≠ 13) → findE (l ++ 13 :: 10 :: r) = some l.length
  | [], r, _ => by simp [findE]
  | [a], r, h => by
    have ha : a ≠ 13 := h a (by simp)
    show findE (a :: 13 :: 10 :: r) = some 1
    unfold findE
    rw [if_neg (fun e => ha e.1)]
    simp [findE]
  | a :: b :: l, r, h => by
    have ha : a ≠ 13 := h a (by simp)
    have := findE_skip (b :: l) r (fun x hx => h x (List.mem_cons_of_mem _ hx))
    show findE (a :: b :: (l ++ 13 :: 10 :: r)) = some (l.length + 2)
    unfold findE
    rw [if_neg (fun e => ha e.1)]
    simp only [List.cons_append, List.length_cons] at this
    rw [this]; rfl
def endL (b : List UInt8) (p : Nat) : Option Nat := (findE (b.drop p)).map (· + p)

inductive St where
  | wait
  | ready (a n : Nat)
  | done (f : Frm) (k : Nat)
/-- What comes next where the line begins at p. -/
def stepF (b : List UInt8) (p : Nat) : St :=
  if b.length < p then .wait else
  match endL b p with
  | none => .wait
  | some e =>
    if 8192 < ((b.take e).drop p).length then .done ⟨3, ((b.take e).drop p).take 8192⟩ (e + 2)
    else match annP ((b.take e).drop p) with
      | none => .done ⟨1, b.take e⟩ (e + 2)
      | some n => if 65536 < n then .done ⟨4, b.take e⟩ (e + 2) else .ready (e + 2) n
theorem endL_some {b : List UInt8} {p e : Nat} (h : endL b p = some e) : p ≤ e ∧ e + 2 ≤ b.length ∧ b[e]? = some 13 ∧ b[e + 1]? = some 10 := by
  unfold endL at h
  cases h2 : findE (b.drop p) with
  | none => rw [h2] at h; cases h
  | some e2 =>
    rw [h2] at h
    simp only [Option.map_some, Option.some.injEq] at h
    subst h
    obtain ⟨h3, h4, h5⟩ := findE_some h2
    rw [List.length_drop] at h3
    rw [List.getElem?_drop] at h4 h5
    refine ⟨by omega, by omega, ?_, ?_⟩
    · rw [← h4, Nat.add_comm]
    · rw [← h5]; congr 1; omega
theorem endL_app {b : List UInt8} {p e : Nat} (x : List UInt8) (hp : p ≤ b.length) (h : endL b p = some e) : endL (b ++ x) p = some e := by
  unfold endL at h ⊢
  rw [List.drop_append_of_le_length hp]
  cases h2 : findE (b.drop p) with
  | none => rw [h2] at h; cases h
  | some e2 => rw [h2] at h; rw [findE_app x h2]; exact h
theorem stepF_le {b : List UInt8} {p : Nat} (h : stepF b p ≠ .wait) : p ≤ b.length := by
  unfold stepF at h
  split at h
  · exact absurd rfl h
  · omega
theorem stepF_app {b : List UInt8} {p : Nat} (x : List UInt8) (h : stepF b p ≠ .wait) : stepF (b ++ x) p = stepF b p := by
  have hp := stepF_le h
  unfold stepF at h ⊢
  rw [if_neg (show ¬ b.length < p by omega)] at h
  rw [if_neg (show ¬ (b ++ x).length < p by rw [List.length_append]; omega), if_neg (show ¬ b.length < p by omega)]
  cases he : endL b p with
  | none => rw [he] at h; exact absurd rfl h
  | some e =>
    have h2 := endL_some he
    rw [endL_app x hp he]
    simp only
    rw [List.take_append_of_le_length (by omega)]
theorem stepF_done {b : List UInt8} {p k : Nat} {f : Frm} (h : stepF b p = .done f k) : p + 2 ≤ k ∧ k ≤ b.length := by
  unfold stepF at h
  split at h
  · cases h
  · split at h
    · cases h
    · rename_i e he
      have h2 := endL_some he
      split at h
      · injection h with h3 h4; omega
      · split at h
        · injection h with h3 h4; omega
        · split at h
          · injection h with h3 h4; omega
          · cases h
theorem stepF_ready {b : List UInt8} {p a n : Nat} (h : stepF b p = .ready a n) : p + 2 ≤ a ∧ a ≤ b.length ∧ n ≤ 65536 := by
  unfold stepF at h
  split at h
  · cases h
  · split at h
    · cases h
    · rename_i e he
      have h2 := endL_some he
      split at h
      · cases h
      · split at h
        · cases h
        · split at h
          · cases h
          · injection h with h3 h4; omega
/-- From one state to another, with the frames on the way. -/
inductive Run : List UInt8 → Nat → List Frm → List UInt8 → Nat → Prop
  | refl (b : List UInt8) (p : Nat) : Run b p [] b p
  | ready {b : List UInt8} {p a n : Nat} {fs : List Frm} {b' : List UInt8} {p' : Nat} : stepF b p = .ready a n → Run b (a + n) fs b' p' → Run b p (⟨2, []⟩ :: fs) b' p'
  | done {b : List UInt8} {p k : Nat} {f : Frm} {fs : List Frm} {b' : List UInt8} {p' : Nat} : stepF b p = .done f k → Run (b.drop k) 0 fs b' p' → Run b p (f :: fs) b' p'
theorem Run.trans {b : List UInt8} {p : Nat} {fs : List Frm} {b' : List UInt8} {p' : Nat} {gs : List Frm} {b2 : List UInt8} {p2 : Nat} (h : Run b p fs b' p') (k : Run b' p' gs b2 p2) : Run b p (fs ++ gs) b2 p2 := by
  induction h with
  | refl => exact k
  | ready hs _ ih => exact .ready hs (ih k)
  | done hs _ ih => exact .done hs (ih k)
theorem Run.one_ready {b : List UInt8} {p a n : Nat} (h : stepF b p = .ready a n) : Run b p [⟨2, []⟩] b (a + n) := .ready h (.refl _ _)
theorem Run.one_done {b : List UInt8} {p k : Nat} {f : Frm} (h : stepF b p = .done f k) : Run b p [f] (b.drop k) 0 := .done h (.refl _ _)
theorem Run.app {b : List UInt8} {p : Nat} {fs : List Frm} {b' : List UInt8} {p' : Nat} (x : List UInt8) (h : Run b p fs b' p') : Run (b ++ x) p fs (b' ++ x) p' := by
  induction h with
  | refl => exact .refl _ _
  | ready hs _ ih => exact .ready (by rw [stepF_app x (by rw [hs]; exact fun h => by cases h), hs]) ih
  | done hs _ ih =>
    refine .done (by rw [stepF_app x (by rw [hs]; exact fun h => by cases h), hs]) ?_
    rw [List.drop_append_of_le_length (stepF_done hs).2]
    exact ih
theorem Run.same {b : List UInt8} {p : Nat} {fs gs : List Frm} {b1 b2 : List UInt8} {p1 p2 : Nat} (h : Run b p fs b1 p1) (k : Run b p gs b2 p2) (hw : stepF b1 p1 = .wait) (kw : stepF b2 p2 = .wait) : fs = gs ∧ b1 = b2 ∧ p1 = p2 := by
  induction h generalizing gs with
  | refl =>
    cases k with
    | refl => exact ⟨rfl, rfl, rfl⟩
    | ready hs _ => rw [hw] at hs; cases hs
    | done hs _ => rw [hw] at hs; cases hs
  | ready hs _ ih =>
    cases k with
    | refl => rw [kw] at hs; cases hs
    | ready ks k2 =>
      rw [hs] at ks
      injection ks with e1 e2
      subst e1 e2
      obtain ⟨e, r⟩ := ih k2 hw
      exact ⟨by rw [e], r⟩
    | done ks _ => rw [hs] at ks; cases ks
  | done hs _ ih =>
    cases k with
    | refl => rw [kw] at hs; cases hs
    | ready ks _ => rw [hs] at ks; cases ks
    | done ks k2 =>
      rw [hs] at ks
      injection ks with e1 e2
      subst e1 e2
      obtain ⟨e, r⟩ := ih k2 hw
      exact ⟨by rw [e], r⟩
theorem Run.place {b : List UInt8} {p : Nat} {fs : List Frm} {b' : List UInt8} {p' : Nat} (h : Run b p fs b' p') (h0 : p = 0 ∨ 2 ≤ b.length) : p' = 0 ∨ 2 ≤ b'.length := by
  induction h with
  | refl => exact h0
  | ready hs _ ih => exact ih (.inr (by have := stepF_ready hs; omega))
  | done _ _ ih => exact ih (.inl rfl)
/-- What is left of a state's measure. -/
def left (b : List UInt8) (p : Nat) : Nat := 2 * b.length + 2 - min p (b.length + 1)
theorem left_ready {b : List UInt8} {p a n : Nat} (h : stepF b p = .ready a n) : left b (a + n) < left b p := by
  have h1 := stepF_ready h
  unfold left
  omega
theorem left_done {b : List UInt8} {p k : Nat} {f : Frm} (h : stepF b p = .done f k) : left (b.drop k) 0 < left b p := by
  have h1 := stepF_done h
  unfold left
  rw [List.length_drop]
  omega
/-- There are fewer frames than bytes. -/
theorem Run.count {b : List UInt8} {p : Nat} {fs : List Frm} {b' : List UInt8} {p' : Nat} (h : Run b p fs b' p') : 2 * fs.length + (b'.length - p') ≤ b.length - p := by
  induction h with
  | refl => simp
  | ready hs _ ih => have := stepF_ready hs; simp only [List.length_cons]; omega
  | done hs _ ih => have := stepF_done hs; rw [List.length_drop] at ih; simp only [List.length_cons]; omega
theorem Run.rest {b : List UInt8} {p : Nat} {fs : List Frm} {b' : List UInt8} {p' : Nat} (h : Run b p fs b' p') : b'.length ≤ b.length := by
  induction h with
  | refl => exact Nat.le_refl _
  | ready _ _ ih => exact ih
  | done _ _ ih => rw [List.length_drop] at ih; omega
end Go.Proofs.YtllboenffepcgaaDoor
namespace Go.Proofs.YtllboenffepcgaaDoor
open Go.RowKit

/-- The slice of l.length bytes at p reads as l, below block B. -/
def Bys (w : World) (B : Nat) (p : Option Addr) (l : List UInt8) : Prop :=
  0 < l.length → ∃ b o, p = some ⟨b, o, none⟩ ∧ b < B ∧ ∀ i (h : i < l.length), w.cell? ⟨b, o + i, none⟩ = some (.int .u8 (l[i].toNat : Int))

section
variable {w w' : World} {B B' : Nat} {p : Option Addr} {l : List UInt8}
theorem Bys.nil (w : World) (B : Nat) (p : Option Addr) : Bys w B p [] := fun h => absurd h (by simp)
theorem Bys.keep (h : Bys w B p l) (hk : ∀ q : Addr, q.block < B → w'.cell? q = w.cell? q) : Bys w' B p l := fun h0 => by
  obtain ⟨b, o, e, hb, hc⟩ := h h0
  exact ⟨b, o, e, hb, fun i hi => (hk _ hb).trans (hc i hi)⟩
theorem Bys.more (h : Bys w B p l) (hB : B ≤ B') : Bys w B' p l := fun h0 => by
  obtain ⟨b, o, e, hb, hc⟩ := h h0
  exact ⟨b, o, e, Nat.lt_of_lt_of_le hb hB, hc⟩
theorem Bys.below (h : Bys w B p l) (hb : Below B w w') : Bys w' B p l := h.keep fun _ hq => hb.cell hq
theorem Bys.belowle {C : Nat} (h : Bys w B p l) (hb : Below C w w') (hC : B ≤ C) : Bys w' B p l := h.keep fun _ hq => hb.cell (Nat.lt_of_lt_of_le hq hC)
theorem Bys.drew (h : Bys w B p l) : Bys w.drew B p l := h
theorem Bys.drewN (h : Bys w B p l) (k : Nat) : Bys (w.drewN k) B p l := h
theorem Bys.past (h : Bys w B p l) (hB : B ≤ w.heap.size) (o : Obj) : Bys (w.alloc o) B p l := h.keep fun q hq => World.cell?_alloc_lt w o q (by omega)
theorem Bys.at (h : Bys w B p l) (h0 : 0 < l.length) : ∃ b o, p = some ⟨b, o, none⟩ ∧ b < B ∧ ∀ i (hi : i < l.length), w.cell? ⟨b, o + i, none⟩ = some (.int .u8 (l[i].toNat : Int)) := h h0
/-- The tail behind k places. -/
theorem Bys.from (h : Bys w B p l) (k : Nat) : Bys w B (p.map (·.add k)) (l.drop k) := fun h0 => by
  obtain ⟨b, o, rfl, hb, hc⟩ := h (by rw [List.length_drop] at h0; omega)
  refine ⟨b, o + k, ?_, hb, fun i hi => ?_⟩
  · rw [Option.map_some, Go.WideShapes.add_plain]
  · rw [List.length_drop] at hi
    rw [Nat.add_assoc, hc (k + i) (by omega), List.getElem_drop]
/-- The first k places. -/
theorem Bys.upto (h : Bys w B p l) (k : Nat) : Bys w B p (l.take k) := fun h0 => by
  rw [List.length_take] at h0
  obtain ⟨b, o, e, hb, hc⟩ := h (by omega)
  refine ⟨b, o, e, hb, fun i hi => ?_⟩
  rw [List.length_take] at hi
  rw [hc i (by omega), List.getElem_take]
/-- The walk's own spelling of a cut that leaves nothing at the capacity's end. -/
theorem Bys.from_if (h : Bys w B p l) (k cap : Nat) (hl : l.length ≤ cap) : Bys w B (if cap = k then p else p.map (·.add k)) (l.drop k) := by
  by_cases e : cap = k
  · have : l.drop k = [] := List.drop_eq_nil_of_le (by omega)
    rw [this]; exact Bys.nil _ _ _
  · rw [if_neg e]; exact h.from k
/-- As the shelf's contracts say it. -/
def ints (l : List UInt8) : List Int := l.map fun b => (b.toNat : Int)
theorem ints_length (l : List UInt8) : (ints l).length = l.length := by simp [ints]
theorem Bys.ints_in (h : Bys w B p l) : Lib.BytesIn w p l.length (ints l) := fun h0 => by
  obtain ⟨b, o, e, hb, hc⟩ := h h0
  exact ⟨b, o, e, fun i hi => by rw [hc i hi]; simp [ints, hi]⟩
end

/-- 'string(b)' -/
theorem conv_bys {P : Program} {w : World} {B : Nat} {p : Option Addr} {l : List UInt8} (h : Bys w B p l) (c : Nat) {src dst e : TypeId} (hs : P.underlying src = some (.slice e)) (he : P.underlying e = some (.int .u8)) (hd : P.underlying dst = some .string) :
    (convert src dst (.slice p l.length c)).run P w = .ok (.string ⟨l.toArray⟩) w := by
  rcases Nat.eq_zero_or_pos l.length with h0 | h0
  · have hl : l = [] := List.eq_nil_of_length_eq_zero h0
    subst hl
    rcases p with _ | a
    · exact run_convert_bytes_nil (P := P) (w := w) src e hs he _ _ dst hd
    · exact run_convert_bytes_back (P := P) w src dst e a c [] hs he hd (fun j hj => absurd hj (by simp))
  · obtain ⟨b, o, rfl, hb, hc⟩ := h h0
    exact run_convert_bytes_back (P := P) w src dst e ⟨b, o, none⟩ c l hs he hd (fun j hj => by rw [Go.WideShapes.add_plain]; exact hc j hj)
end Go.Proofs.YtllboenffepcgaaDoor
namespace Go.Proofs.YtllboenffepcgaaDoor
open Go.RowKit

/-- The slice value v of n elements of 'size' cells each, nil or in a block from base on, holds the cells xs; up to its capacity it may be written. -/
def Buf (w : World) (base size : Nat) (v : Value) (n : Nat) (xs : List Value) : Prop :=
  xs.length = n * size ∧ ((v = .slice none 0 0 ∧ n = 0) ∨ ∃ g off cap, v = .slice (some ⟨g, off, none⟩) n cap ∧ base ≤ g ∧ g < w.heap.size ∧ n ≤ cap ∧
    (∀ j u, xs[j]? = some u → w.cell? ⟨g, off + j, none⟩ = some u) ∧ ∀ j, j < cap * size → (w.cell? ⟨g, off + j, none⟩).isSome = true ∧ w.frozen? ⟨g, off + j, none⟩ = false)
/-- The source of an append. -/
def Src (w : World) (size : Nat) (A : Option Addr) (m : Nat) (xs : List Value) : Prop :=
  xs.length = m * size ∧ (∀ u ∈ xs, u.oneCell' = true) ∧ (0 < m → ∃ ad, A = some ad ∧ ∀ j u, xs[j]? = some u → w.cell? (ad.add j) = some u)

section
variable {w w' : World} {base size n : Nat} {v : Value} {xs : List Value}
theorem Buf.nil (w : World) (base size : Nat) : Buf w base size (.slice none 0 0) 0 [] := ⟨by simp, .inl ⟨rfl, rfl⟩⟩
theorem Buf.kept (h : Buf w base size v n xs) (hs : w.heap.size ≤ w'.heap.size) (hk : ∀ k, k < w.heap.size → v.ownBlock = some k → w'.heap[k]? = w.heap[k]?) : Buf w' base size v n xs := by
  refine ⟨h.1, ?_⟩
  rcases h.2 with h2 | ⟨g, off, cap, rfl, hg, hlt, hnc, hc, hf⟩
  · exact .inl h2
  · have e : w'.heap[g]? = w.heap[g]? := hk g hlt rfl
    exact .inr ⟨g, off, cap, rfl, hg, Nat.lt_of_lt_of_le hlt hs, hnc, fun j u hj => (World.cell?_of_block (a := ⟨g, off + j, none⟩) e).trans (hc j u hj),
      fun j hj => by rw [World.cell?_of_block (a := ⟨g, off + j, none⟩) e, World.frozen?_of_block (a := ⟨g, off + j, none⟩) e]; exact hf j hj⟩
theorem Buf.drew (h : Buf w base size v n xs) : Buf w.drew base size v n xs := h
theorem Buf.drewN (h : Buf w base size v n xs) (k : Nat) : Buf (w.drewN k) base size v n xs := h
theorem Buf.past (h : Buf w base size v n xs) (o : Obj) : Buf (w.alloc o) base size v n xs := h.kept (by simp) fun k hk _ => Below.heap_alloc w o k hk
theorem Buf.below {B : Nat} (h : Buf w base size v n xs) (hb : Below B w w') (hB : w.heap.size ≤ B) : Buf w' base size v n xs := h.kept hb.size fun k hk _ => hb.block k (by omega)
theorem Buf.far (h : Buf w base size v n xs) {p : Addr} (hp : v.ownBlock ≠ some p.block) (u : Value) : Buf (w.setCell p u) base size v n xs :=
  h.kept (by simp [World.setCell]) fun k _ he => Below.heap_setCell w p u k (by rintro rfl; exact hp he)
theorem Buf.grown {row : Option Nat} (h : Buf w base size v n xs) (hg : w.grownBy w' row) (hr : ∀ k, v.ownBlock = some k → some k ≠ row) : Buf w' base size v n xs :=
  h.kept hg.size fun k hk he => hg.block k hk (hr k he)
theorem Buf.mono {base' : Nat} (h : Buf w base size v n xs) (hb : base' ≤ base) : Buf w base' size v n xs := by
  refine ⟨h.1, ?_⟩
  rcases h.2 with h2 | ⟨g, off, cap, hv, hg, r⟩
  · exact .inl h2
  · exact .inr ⟨g, off, cap, hv, Nat.le_trans hb hg, r⟩
theorem Buf.of_own {e : TypeId} (h : w.ownsRow base e size v n xs) : Buf w base size v n xs := by
  refine ⟨h.1, ?_⟩
  rcases h.2 with h2 | ⟨g, cap, cur, rfl, hg, hh, hnc, _, hsz, ht⟩
  · exact .inl h2
  · refine .inr ⟨g, 0, cap, rfl, hg, lt_of_block hh, hnc, fun j u hj => ?_, fun j hj => ?_⟩
    · rw [← ht] at hj
      have hj1 : j < n * size := by
        have := (List.getElem?_eq_some_iff.1 hj).1
        rw [List.length_take] at this
        omega
      rw [List.getElem?_take_of_lt hj1] at hj
      simp only [World.cell?, hh, Nat.zero_add]
      simpa using hj
    · simp only [World.cell?, World.frozen?, hh, Nat.zero_add]
      refine ⟨?_, by simp⟩
      rw [Array.getElem?_eq_getElem (by omega)]; rfl
theorem Buf.src (h : Buf w base size v n xs) (h1 : ∀ u ∈ xs, u.oneCell' = true) : ∃ A cap, v = .slice A n cap ∧ n ≤ cap ∧ Src w size A n xs := by
  rcases h.2 with ⟨rfl, rfl⟩ | ⟨g, off, cap, rfl, hg, hlt, hnc, hc, hf⟩
  · exact ⟨none, 0, rfl, Nat.le_refl _, h.1, h1, fun h => absurd h (by omega)⟩
  · exact ⟨_, cap, rfl, hnc, h.1, h1, fun _ => ⟨_, rfl, fun j u hj => by rw [Go.WideShapes.add_plain]; exact hc j u hj⟩⟩
end

theorem setCells_block (b : Nat) : ∀ (vs : List Value) (o : Nat) (w : World) (k : Nat), k ≠ b → (w.setCells b o vs).heap[k]? = w.heap[k]?
  | [], _, _, _, _ => rfl
  | v :: vs, o, w, k, hk => by
    show ((w.setCell ⟨b, o, none⟩ v).setCells b (o + 1) vs).heap[k]? = _
    rw [setCells_block b vs (o + 1) _ k hk]
    exact Below.heap_setCell w _ v k hk
theorem setCells_size (b : Nat) : ∀ (vs : List Value) (o : Nat) (w : World), (w.setCells b o vs).heap.size = w.heap.size
  | [], _, _ => rfl
  | v :: vs, o, w => by
    show ((w.setCell ⟨b, o, none⟩ v).setCells b (o + 1) vs).heap.size = _
    rw [setCells_size b vs (o + 1) _]
    simp [World.setCell]
theorem setCells_rest (b : Nat) : ∀ (vs : List Value) (o : Nat) (w : World), (w.setCells b o vs).os = w.os ∧ (w.setCells b o vs).tape = w.tape ∧ (w.setCells b o vs).output = w.output
  | [], _, _ => ⟨rfl, rfl, rfl⟩
  | v :: vs, o, w => setCells_rest b vs (o + 1) (w.setCell ⟨b, o, none⟩ v)
theorem setCells_grown (w : World) (b o : Nat) (vs : List Value) : w.grownBy (w.setCells b o vs) (some b) :=
  ⟨(setCells_rest b vs o w).1, (setCells_rest b vs o w).2.1, (setCells_rest b vs o w).2.2, by rw [setCells_size]; exact Nat.le_refl _, fun k _ hne => setCells_block b vs o w k (fun e => hne (by rw [e]))⟩
theorem setCells_some (b : Nat) : ∀ (vs : List Value) (o : Nat) (w : World) (q : Addr), (w.cell? q).isSome = true → ((w.setCells b o vs).cell? q).isSome = true
  | [], _, _, _, h => h
  | v :: vs, o, w, q, h => setCells_some b vs (o + 1) _ q (by
      by_cases e : q = ⟨b, o, none⟩
      · subst e
        obtain ⟨u, hu⟩ := Option.isSome_iff_exists.1 h
        rw [World.cell?_setCell_same _ _ _ hu]; rfl
      · rw [World.cell?_setCell_other _ _ _ _ (fun e' => e (by rw [e'])), h])

section
variable {P : Program} (w : World)
theorem run_append_buf (t ty e : TypeId) (i : TypeInfo) (z : Value) (size bytes : Nat) (ht : P.underlying t = some (.slice e)) (hi : P.info? e = some i) (hz : i.zero = some z)
    (hsize : i.size = size) (hby : i.bytes = bytes) (hzs : z.cells.size = size) (hsz : 0 < size)
    (base : Nat) (v : Value) (n : Nat) (xs : List Value) (hbuf : Buf w base size v n xs) (A : Option Addr) (m c : Nat) (news : List Value) (hs : Src w size A m news)
    (h63 : n + m ≤ maxLen) (hbytes : (n + m) * bytes ≤ 140737488355328) (hbase : base ≤ w.heap.size) :
    ∃ v' w', (Builtin.append_ #[t, t] ty #[v, .slice A m c]).run P w = .ok v' w' ∧ Buf w' base size v' (n + m) (xs ++ news) ∧ w.grownBy w' v.ownBlock ∧ (v'.ownBlock = v.ownBlock ∨ ∃ g, v'.ownBlock = some g ∧ w.heap.size ≤ g) := by
  obtain ⟨hnl, h1, hsrc⟩ := hs
  rcases hbuf.2 with ⟨rfl, rfl⟩ | ⟨g, off, cap, rfl, hg, hlt, hnc, hc, hf⟩
  · have hx : xs = [] := List.eq_nil_of_length_eq_zero (by simpa using hbuf.1)
    subst hx
    cases A with
    | none =>
      have hm : m = 0 := by
        rcases Nat.eq_zero_or_pos m with h | h
        · exact h
        · obtain ⟨_, e, _⟩ := hsrc h; cases e
      subst hm
      have hn : news = [] := List.eq_nil_of_length_eq_zero (by simpa using hnl)
      subst hn
      refine ⟨.slice none 0 0, w, ?_, by simpa using hbuf, World.grownBy.refl w _, .inl rfl⟩
      simp [Builtin.append_, run_underlying ht, sizeOf, typeInfo, hi, Builtin.lenOf, Builtin.firstCells]
    | some ad =>
      have hcells : ∀ j u, news[j]? = some u → w.cell? (ad.add j) = some u := by
        intro j u hu
        rcases Nat.eq_zero_or_pos m with h | h
        · subst h
          have hn : news = [] := List.eq_nil_of_length_eq_zero (by simpa using hnl)
          subst hn; simp at hu
        · obtain ⟨ad', e, hc'⟩ := hsrc h
          injection e with e; subst e
          exact hc' j u hu
      obtain ⟨v', w', hrun, hown, hgr, _⟩ := run_append_own (P := P) w w.heap.size t ty e i z size bytes ht hi hz hsize hby hzs hsz (.slice none 0 0) 0 [] (World.ownsRow_nil w _ e size) ad m c news hnl hcells h1 h63 hbytes (Nat.le_refl _)
      refine ⟨v', w', hrun, (Buf.of_own hown).mono hbase, hgr, ?_⟩
      rcases hown.2 with ⟨rfl, _⟩ | ⟨g, cap, cur, rfl, hg, _⟩
      · exact .inl rfl
      · exact .inr ⟨g, rfl, hg⟩
  · have hcellA : ∀ ad, A = some ad → ∀ j u, news[j]? = some u → w.cell? (ad.add j) = some u := by
      intro ad hA j u hu
      rcases Nat.eq_zero_or_pos m with h | h
      · subst h
        have hn : news = [] := List.eq_nil_of_length_eq_zero (by simpa using hnl)
        subst hn; simp at hu
      · obtain ⟨ad', e, hc'⟩ := hsrc h
        rw [hA] at e
        injection e with e; subst e
        exact hc' j u hu
    cases A with
    | none =>
      have hm : m = 0 := by
        rcases Nat.eq_zero_or_pos m with h | h
        · exact h
        · obtain ⟨_, e, _⟩ := hsrc h; cases e
      subst hm
      have hn : news = [] := List.eq_nil_of_length_eq_zero (by simpa using hnl)
      subst hn
      refine ⟨.slice (some ⟨g, off, none⟩) n cap, w, ?_, by simpa using hbuf, World.grownBy.refl w _, .inl rfl⟩
      simp [Builtin.append_, run_underlying ht, sizeOf, typeInfo, hi, Builtin.lenOf, Builtin.firstCells, hnc, storeCells]
    | some ad =>
      by_cases hr : n + m ≤ cap
      · have hle : n * size + news.length ≤ cap * size := by rw [hnl, ← Nat.add_mul]; exact Nat.mul_le_mul_right _ hr
        subst hsize
        have hrun := run_append_room_cells (P := P) w t ty e i ht hi g off n cap ad m c news hnl (hcellA ad rfl) h1 hr
          (fun j hj => by rw [Nat.add_assoc]; exact (hf _ (by omega)).1) (fun j hj => by rw [Nat.add_assoc]; exact (hf _ (by omega)).2)
        refine ⟨_, _, hrun, ⟨by rw [List.length_append, hbuf.1, hnl, Nat.add_mul], .inr ⟨g, off, cap, rfl, hg, by rw [setCells_size]; exact hlt, hr, fun j u hj => ?_, fun j hj => ⟨setCells_some _ _ _ _ _ (hf j hj).1, ?_⟩⟩⟩, setCells_grown w _ _ _, .inl rfl⟩
        · by_cases hjx : j < xs.length
          · rw [List.getElem?_append_left hjx] at hj
            rw [World.cell?_setCells_out g news _ w ⟨g, off + j, none⟩ (fun _ _ => .inl (by have := hbuf.1; show off + j < off + n * i.size; omega))]
            exact hc j u hj
          · rw [List.getElem?_append_right (by omega)] at hj
            obtain ⟨hk, hku⟩ := List.getElem?_eq_some_iff.1 hj
            have hin := World.cell?_setCells_in g news (off + n * i.size) w (fun q hq => by rw [Nat.add_assoc]; exact (hf _ (by omega)).1) (j - xs.length) hk
            rw [show off + j = off + n * i.size + (j - xs.length) by have := hbuf.1; omega, hin, hku]
        · rw [World.frozen?_setCells]; exact (hf j hj).2
      · obtain ⟨v', w', hrun, hown, hgr⟩ := run_append_arg_grows (P := P) w t ty e i z size bytes ht hi hz hsize hby hzs hsz ⟨g, off, none⟩ n cap xs hbuf.1 (fun j u hj => by rw [Go.WideShapes.add_plain]; exact hc j u hj) ad m c news hnl (hcellA ad rfl) (by omega) h63 hbytes
        refine ⟨v', w', hrun, (Buf.of_own hown).mono hbase, ⟨hgr.os, hgr.tape, hgr.output, hgr.size, fun k hk _ => hgr.block k hk (by simp)⟩, ?_⟩
        rcases hown.2 with ⟨rfl, h0⟩ | ⟨g', cap', cur, rfl, hg', _⟩
        · have : n + m = 0 := h0
          omega
        · exact .inr ⟨g', rfl, hg'⟩

theorem wpList_append_run {ops : Array Oper} {rest : List Oper} {o : Oper} {a : Act} {Q : Exit → Act → World → Prop} (hgd : o.guard = none) (d s : Operand) (dT sT : TypeId)
    (ho : o.op = .call { callee := .builtin .append, args := #[d, s], argTypes := #[dT, sT] }) (x y : Value) (hx : a.eval d = x) (hy : a.eval s = y) (v : Value) (w' : World)
    (hrun : (Builtin.append_ #[dT, sT] o.type #[x, y]).run P w = .ok v w') (h : wpList P ops Q rest (a.put o.dst v) w') : wpList P ops Q (o :: rest) a w := by
  refine wpList_plain hgd fun K hK => ?_
  unfold Oper.wp execOp
  simp only [ho, resolve, invoke, builtin, Sem.run_bind, Sem.run_pure, Result.andThen_ok, List.map_toArray, List.map_cons, List.map_nil, hx, hy, hrun]
  exact hK _ _ h
end
end Go.Proofs.YtllboenffepcgaaDoor
namespace Go.Proofs.YtllboenffepcgaaDoor
open Go.RowKit

/-- The n bytes lie in a block from lo on, below hi, and may be written. -/
def Wrt (W : World) (lo hi : Nat) (px : Option Addr) (n : Nat) : Prop :=
  0 < n → ∃ b o, px = some ⟨b, o, none⟩ ∧ lo ≤ b ∧ b < hi ∧ ∀ i, i < n → ∃ u : Int, W.cell? ⟨b, o + i, none⟩ = some (.int .u8 u) ∧ W.frozen? ⟨b, o + i, none⟩ = false
theorem Wrt.keep {W W' : World} {lo hi n B : Nat} {px : Option Addr} (h : Wrt W lo hi px n) (hb : Below B W W') (hB : hi ≤ B) : Wrt W' lo hi px n := fun h0 => by
  obtain ⟨b, o, e, h1, h2, h3⟩ := h h0
  refine ⟨b, o, e, h1, h2, fun i hi => ?_⟩
  obtain ⟨u, c, f⟩ := h3 i hi
  have e : W'.heap[b]? = W.heap[b]? := hb.block b (by omega)
  exact ⟨u, by rw [World.cell?_of_block (a := ⟨b, o + i, none⟩) e]; exact c, by rw [World.frozen?_of_block (a := ⟨b, o + i, none⟩) e]; exact f⟩
theorem Wrt.drew {W : World} {lo hi n : Nat} {px : Option Addr} (h : Wrt W lo hi px n) : Wrt W.drew lo hi px n := h
theorem Wrt.of_buf {W : World} {lo n c : Nat} {px : Option Addr} {l : List UInt8} (h : Buf W lo 1 (.slice px n c) n (Lib.byteCells l)) (hl : l.length = n) : Wrt W lo W.heap.size px n := fun h0 => by
  rcases h.2 with ⟨e, _⟩ | ⟨g, off, cap, e, hg, hlt, hnc, hc, hf⟩
  · injection e with e1 e2; omega
  · injection e with e1 e2 e3
    refine ⟨g, off, e1, hg, hlt, fun i hi => ⟨(l[i]'(by omega)).toNat, ?_, (hf i (by omega)).2⟩⟩
    refine hc i _ ?_
    simp [Lib.byteCells, List.getElem?_eq_getElem (show i < l.length by omega)]
theorem Wrt.put {W : World} {lo hi n b o i : Nat} (h : Wrt W lo hi (some ⟨b, o, none⟩) n) (v : Int) : Wrt (W.setCell ⟨b, o + i, none⟩ (.int .u8 v)) lo hi (some ⟨b, o, none⟩) n := fun h0 => by
  obtain ⟨b', o', e, h1, h2, h3⟩ := h h0
  injection e with e
  injection e with e1 e2
  subst e1 e2
  refine ⟨b, o, rfl, h1, h2, fun j hj => ?_⟩
  obtain ⟨u, c, f⟩ := h3 j hj
  by_cases e : j = i
  · subst e
    exact ⟨v, World.cell?_setCell_same _ _ _ c, by rw [World.frozen?_setCell]; exact f⟩
  · refine ⟨u, ?_, by rw [World.frozen?_setCell]; exact f⟩
    have hne : (⟨b, o + i, none⟩ : Addr) ≠ ⟨b, o + j, none⟩ := fun e2 => e (by injection e2 with _ e3 _; omega)
    rw [World.cell?_setCell_other _ _ _ _ hne]
    exact c
theorem Wrt.far {W : World} {lo hi n : Nat} {px : Option Addr} {p : Addr} (h : Wrt W lo hi px n) (hp : hi ≤ p.block) (v : Value) : Wrt (W.setCell p v) lo hi px n := fun h0 => by
  obtain ⟨b', o', e, h1, h2, h3⟩ := h h0
  refine ⟨b', o', e, h1, h2, fun j hj => ?_⟩
  obtain ⟨u, c, f⟩ := h3 j hj
  exact ⟨u, by rw [World.cell?_setCell_far _ _ _ _ (by show p.block ≠ b'; omega)]; exact c, by rw [World.frozen?_setCell]; exact f⟩
theorem Wrt.sel {W : World} {lo hi n : Nat} {px : Option Addr} (b : Bool) (h : Wrt W lo hi px n) : Wrt W lo hi (if b then px else none) (if b then n else 0) := by
  cases b
  · exact fun h0 => absurd h0 (by simp)
  · exact h
end Go.Proofs.YtllboenffepcgaaDoor
namespace Go.Proofs.YtllboenffepcgaaDoor
open Go.RowKit

/-- The blocks of a kind lie as they lay. -/
def KeptOn (ok : Nat → Prop) (W W' : World) : Prop := W.heap.size ≤ W'.heap.size ∧ ∀ k, k < W.heap.size → ok k → W'.heap[k]? = W.heap[k]?
theorem KeptOn.below {ok : Nat → Prop} {W W' : World} (h : Below W.heap.size W W') : KeptOn ok W W' := ⟨h.size, fun k hk _ => h.block k hk⟩
theorem KeptOn.grown {ok : Nat → Prop} {W W' : World} {row : Option Nat} (h : W.grownBy W' row) (hr : ∀ s, row = some s → ¬ ok s) : KeptOn ok W W' := ⟨h.size, fun k hk ho => h.block k hk (fun e => hr k e.symm ho)⟩
theorem KeptOn.refl (ok : Nat → Prop) (W : World) : KeptOn ok W W := ⟨Nat.le_refl _, fun _ _ _ => rfl⟩
theorem KeptOn.trans {ok : Nat → Prop} {A B C : World} (h : KeptOn ok A B) (k : KeptOn ok B C) : KeptOn ok A C := ⟨Nat.le_trans h.1 k.1, fun i hi ho => (k.2 i (Nat.lt_of_lt_of_le hi h.1) ho).trans (h.2 i hi ho)⟩
theorem KeptOn.of {ok ok' : Nat → Prop} {A B : World} (h : KeptOn ok A B) (k : ∀ i, i < A.heap.size → ok' i → ok i) : KeptOn ok' A B := ⟨h.1, fun i hi ho => h.2 i hi (k i hi ho)⟩
/-- The bytes lie in a block of the kind. -/
def BysL (W : World) (ok : Nat → Prop) (p : Option Addr) (l : List UInt8) : Prop :=
  0 < l.length → ∃ b o, p = some ⟨b, o, none⟩ ∧ ok b ∧ b < W.heap.size ∧ ∀ i (hi : i < l.length), W.cell? ⟨b, o + i, none⟩ = some (.int .u8 (l[i].toNat : Int)) ∧ W.frozen? ⟨b, o + i, none⟩ = false
theorem BysL.nil (W : World) (ok : Nat → Prop) (p : Option Addr) : BysL W ok p [] := fun h => absurd h (by simp)
theorem BysL.bys {W : World} {ok : Nat → Prop} {p : Option Addr} {l : List UInt8} (h : BysL W ok p l) : Bys W W.heap.size p l := fun h0 => by
  obtain ⟨b, o, e, _, h2, h3⟩ := h h0
  exact ⟨b, o, e, h2, fun i hi => (h3 i hi).1⟩
theorem BysL.keep {W W' : World} {ok ok' : Nat → Prop} {p : Option Addr} {l : List UInt8} (h : BysL W ok p l) (hk : KeptOn ok W W') (ho : ∀ i, i < W.heap.size → ok i → ok' i) : BysL W' ok' p l := fun h0 => by
  obtain ⟨b, o, e, h1, h2, h3⟩ := h h0
  exact ⟨b, o, e, ho b h2 h1, Nat.lt_of_lt_of_le h2 hk.1, fun i hi => by rw [World.cell?_of_block (a := ⟨b, o + i, none⟩) (hk.2 b h2 h1), World.frozen?_of_block (a := ⟨b, o + i, none⟩) (hk.2 b h2 h1)]; exact h3 i hi⟩
theorem BysL.upto {W : World} {ok : Nat → Prop} {p : Option Addr} {l : List UInt8} (h : BysL W ok p l) (k : Nat) : BysL W ok p (l.take k) := fun h0 => by
  rw [List.length_take] at h0
  obtain ⟨b, o, e, h1, h2, h3⟩ := h (by omega)
  refine ⟨b, o, e, h1, h2, fun i hi => ?_⟩
  rw [List.length_take] at hi
  rw [List.getElem_take]
  exact h3 i (by omega)
theorem BysL.of_buf {W : World} {lo c : Nat} {p : Option Addr} {l : List UInt8} (h : Buf W lo 1 (.slice p l.length c) l.length (Lib.byteCells l)) : BysL W (fun k => lo ≤ k) p l := fun h0 => by
  rcases h.2 with ⟨e, _⟩ | ⟨g, off, cap, e, hg, hlt, hnc, hc, hf⟩
  · injection e with e1 e2; omega
  · injection e with e1 e2 e3
    refine ⟨g, off, e1, hg, hlt, fun i hi => ⟨hc i _ ?_, (hf i (by omega)).2⟩⟩
    simp [Lib.byteCells, List.getElem?_eq_getElem hi]
/-- The cells xs are the frames. -/
def Frs (W : World) (ok : Nat → Prop) : List Frm → List Value → Prop
  | [], xs => xs = []
  | f :: fs, xs => ∃ pv cv ys, xs = .int .i64 f.kind :: .slice pv f.data.length cv :: ys ∧ BysL W ok pv f.data ∧ Frs W ok fs ys
theorem Frs.keep {W W' : World} {ok ok' : Nat → Prop} (hk : KeptOn ok W W') (ho : ∀ i, i < W.heap.size → ok i → ok' i) : ∀ {fs : List Frm} {xs : List Value}, Frs W ok fs xs → Frs W' ok' fs xs
  | [], _, h => h
  | _ :: _, _, ⟨pv, cv, ys, e, hb, hr⟩ => ⟨pv, cv, ys, e, hb.keep hk ho, Frs.keep hk ho hr⟩
theorem Frs.app {W : World} {ok : Nat → Prop} : ∀ {fs gs : List Frm} {xs ys : List Value}, Frs W ok fs xs → Frs W ok gs ys → Frs W ok (fs ++ gs) (xs ++ ys)
  | [], _, _, _, h, k => by rw [show _ = [] from h]; exact k
  | _ :: _, _, _, _, ⟨pv, cv, zs, e, hb, hr⟩, k => ⟨pv, cv, zs ++ _, by rw [e]; rfl, hb, Frs.app hr k⟩
theorem Frs.one {W : World} {ok : Nat → Prop} {cv : Nat} {pv : Option Addr} {f : Frm} (hb : BysL W ok pv f.data) : Frs W ok [f] [.int .i64 f.kind, .slice pv f.data.length cv] := ⟨pv, cv, [], rfl, hb, rfl⟩
theorem Frs.len {W : World} {ok : Nat → Prop} : ∀ {fs : List Frm} {xs : List Value}, Frs W ok fs xs → xs.length = fs.length * 2
  | [], _, h => by rw [show _ = [] from h]; rfl
  | _ :: _, _, ⟨pv, cv, ys, e, hb, hr⟩ => by rw [e]; simp only [List.length_cons, Frs.len hr]; omega
theorem Frs.cells {W : World} {ok : Nat → Prop} : ∀ {fs : List Frm} {xs : List Value}, Frs W ok fs xs → ∀ u ∈ xs, u.oneCell' = true
  | [], _, h, u, hu => by rw [show _ = [] from h] at hu; cases hu
  | _ :: _, _, ⟨pv, cv, ys, e, hb, hr⟩, u, hu => by
    rw [e] at hu
    rcases List.mem_cons.1 hu with rfl | hu
    · rfl
    · rcases List.mem_cons.1 hu with rfl | hu
      · rfl
      · exact Frs.cells hr u hu
theorem Frs.at {W : World} {ok : Nat → Prop} : ∀ {fs : List Frm} {xs : List Value}, Frs W ok fs xs → ∀ i (hi : i < fs.length), ∃ pv cv, xs[i * 2]? = some (.int .i64 fs[i].kind) ∧ xs[i * 2 + 1]? = some (.slice pv fs[i].data.length cv) ∧ BysL W ok pv fs[i].data
  | [], _, _, i, hi => absurd hi (by simp)
  | f :: fs, _, ⟨pv, cv, ys, e, hb, hr⟩, 0, _ => ⟨pv, cv, by rw [e]; rfl, by rw [e]; rfl, hb⟩
  | f :: fs, _, ⟨pv, cv, ys, e, hb, hr⟩, i + 1, hi => by
    obtain ⟨p2, c2, h1, h2, h4⟩ := Frs.at hr i (by simpa using hi)
    refine ⟨p2, c2, ?_, ?_, h4⟩
    · rw [e, show (i + 1) * 2 = i * 2 + 1 + 1 by omega]
      simp only [List.getElem?_cons_succ]
      exact h1
    · rw [e, show (i + 1) * 2 + 1 = i * 2 + 1 + 1 + 1 by omega]
      simp only [List.getElem?_cons_succ]
      exact h2
/-- The slice value v holds the frames; their bytes lie apart from its own row. -/
def OutF (W : World) (ok : Nat → Prop) (v : Value) (fs : List Frm) : Prop := ∃ xs, Buf W 0 2 v fs.length xs ∧ Frs W (fun k => ok k ∧ v.ownBlock ≠ some k) fs xs ∧ ∀ k, v.ownBlock = some k → ok k
theorem OutF.nil (W : World) (ok : Nat → Prop) : OutF W ok (.slice none 0 0) [] := ⟨[], Buf.nil _ _ _, rfl, fun k h => by cases h⟩
theorem Buf.own_lt {W : World} {base size n : Nat} {v : Value} {xs : List Value} (h : Buf W base size v n xs) : ∀ k, v.ownBlock = some k → k < W.heap.size := fun k e => by
  rcases h.2 with ⟨e2, _⟩ | ⟨g, off, cap, e2, _, hg, _⟩
  · rw [e2] at e; cases e
  · rw [e2] at e; simp only [Value.ownBlock, Option.some.injEq] at e; omega
theorem OutF.keep {W W' : World} {ok ok' : Nat → Prop} {v : Value} {fs : List Frm} (h : OutF W ok v fs) (hk : KeptOn ok W W') (ho : ∀ i, i < W.heap.size → ok i → ok' i) : OutF W' ok' v fs := by
  obtain ⟨xs, hb, hf, hv⟩ := h
  have hlt := hb.own_lt
  exact ⟨xs, hb.kept hk.1 (fun k h1 h2 => hk.2 k h1 (hv k h2)), hf.keep (hk.of fun i _ h => h.1) (fun i hi h => ⟨ho i hi h.1, h.2⟩), fun k e => ho k (hlt k e) (hv k e)⟩
theorem OutF.own_lt' {W : World} {ok : Nat → Prop} {v : Value} {fs : List Frm} (h : OutF W ok v fs) : ∀ k, v.ownBlock = some k → k < W.heap.size := by
  obtain ⟨xs, hb, _⟩ := h
  exact hb.own_lt
theorem OutF.shape {W : World} {ok : Nat → Prop} {v : Value} {fs : List Frm} (h : OutF W ok v fs) : ∃ pv cv, v = .slice pv fs.length cv ∧ fs.length ≤ cv := by
  obtain ⟨xs, hb, hf, _⟩ := h
  obtain ⟨A, cap, e, h1, _⟩ := hb.src hf.cells
  exact ⟨A, cap, e, h1⟩
/-- What an append of frames leaves behind. -/
theorem OutF.push {W W' : World} {ok : Nat → Prop} {v v' : Value} {fs gs : List Frm} {xs ys : List Value} (hf : Frs W (fun k => ok k ∧ v.ownBlock ≠ some k) fs xs) (hv : ∀ k, v.ownBlock = some k → ok k) (hg : Frs W (fun k => ok k ∧ v.ownBlock ≠ some k) gs ys)
    (hb : Buf W' 0 2 v' (fs.length + gs.length) (xs ++ ys)) (hgr : W.grownBy W' v.ownBlock) (hr : v'.ownBlock = v.ownBlock ∨ ∃ g, v'.ownBlock = some g ∧ W.heap.size ≤ g) (hnew : ∀ k, W.heap.size ≤ k → ok k) : OutF W' ok v' (fs ++ gs) := by
  have hk : KeptOn (fun k => ok k ∧ v.ownBlock ≠ some k) W W' := KeptOn.grown hgr (fun s e h => h.2 e)
  have ho : ∀ i, i < W.heap.size → (ok i ∧ v.ownBlock ≠ some i) → (ok i ∧ v'.ownBlock ≠ some i) := fun i hi h => ⟨h.1, by
    rcases hr with e | ⟨g, e, hg⟩
    · rw [e]; exact h.2
    · rw [e]; intro e2; injection e2 with e2; omega⟩
  refine ⟨xs ++ ys, by rw [List.length_append]; exact hb, (hf.keep hk ho).app (hg.keep hk ho), fun k e => ?_⟩
  rcases hr with e2 | ⟨g, e2, hg⟩
  · exact hv k (by rw [← e2]; exact e)
  · rw [e2] at e; injection e with e; exact hnew k (by omega)
end Go.Proofs.YtllboenffepcgaaDoor
namespace Go.Proofs.YtllboenffepcgaaDoor
open Go.RowKit

/-- A builder's block b, one of the call's own from B on, that holds the bytes l. -/
def Bld (B b : Nat) (l : List UInt8) (w : World) : Prop := Lib.IsBuilder 67 5 B b (Lib.byteCells l) w

theorem bldSize : (Tryd.prog.info? 67).map (·.size) = some 2 := by kernel_rfl
theorem bldLies : liesAt Tryd.prog Tryd.prog.depth 67 (2 / Tryd.prog.cellsOf 67) 0 67 1 = true := by kernel_rfl
theorem infoU8 : (Tryd.prog.info? 5).map (fun i => (i.zero, i.size, i.bytes)) = some (some (.int .u8 0), 1, 1) := by kernel_rfl

set_option maxHeartbeats 1000000 in
set_option maxRecDepth 100000 in
theorem bld_check_used (b : Nat) (w : World) (h0 : w.cell? ⟨b, 0, none⟩ = some (.pointer (some ⟨b, 0, none⟩))) :
    Calls Tryd.prog 46 #[.pointer (some ⟨b, 0, none⟩)] w fun e w' => e = .returned (.tuple #[]) ∧ w' = w := by
  obtain ⟨j, hj, _⟩ := Option.map_eq_some_iff.1 bldSize
  go_enter Tryd.func46, Tryd.ntmps46
  go_wp2
  rw [Lib.run_neq_ptr_same w _ Tryd.underlying65 hj]
  go_wp2
  go_end0
  exact ⟨rfl, rfl⟩

set_option maxHeartbeats 1000000 in
set_option maxRecDepth 100000 in
theorem bld_check_new (b : Nat) (w : World) (h0 : w.cell? ⟨b, 0, none⟩ = some (.pointer none)) (hsh : w.shape? b = some (67, 2)) (hfz : w.frozen? ⟨b, 0, none⟩ = false) :
    Calls Tryd.prog 46 #[.pointer (some ⟨b, 0, none⟩)] w fun e w' => e = .returned (.tuple #[]) ∧ w' = w.setCell ⟨b, 0, none⟩ (.pointer (some ⟨b, 0, none⟩)) := by
  obtain ⟨j, hj, hjs⟩ := Option.map_eq_some_iff.1 bldSize
  go_enter Tryd.func46, Tryd.ntmps46
  go_wp2
  rw [Lib.run_to_unsafe w ⟨b, 0, none⟩ Tryd.underlying65 Tryd.underlying94 hj (by rw [hjs]; decide) hsh (Nat.zero_lt_succ 1)]
  simp only [Result.andThen]
  rw [Oper.upon_value]
  go_wp2
  rw [run_callFunc_extern Tryd.func58 (by kernel_rfl) (by kernel_rfl) (by kernel_rfl) (e := Extern.AbiNoEscape.same) (by kernel_rfl)]
  rw [Lib.run_noEscape]
  simp only [Result.andThen]
  rw [Oper.upon_value]
  go_wp2
  rw [Lib.run_from_unsafe w ⟨b, 0, none⟩ Tryd.underlying94 Tryd.underlying65 hj hsh bldLies]
  simp only [Result.andThen]
  rw [Oper.upon_value]
  go_wp2
  go_end0
  exact ⟨rfl, rfl⟩

theorem bld_check (B b : Nat) (l : List UInt8) (w : World) (h : Bld B b l w) :
    Calls Tryd.prog 46 #[.pointer (some ⟨b, 0, none⟩)] w fun e w' => e = .returned (.tuple #[]) ∧ (Lib.BuilderAt 67 5 B b (.pointer (some ⟨b, 0, none⟩)) (Lib.byteCells l) w' ∧ Below B w w') := by
  rcases h with h | h
  · refine (bld_check_new b w h.cell0 h.shape h.frozen0).mono ?_
    rintro e w' ⟨rfl, rfl⟩
    exact ⟨rfl, h.used _, (Below.refl B w).setCell (p := ⟨b, 0, none⟩) h.1 _⟩
  · refine (bld_check_used b w h.cell0).mono ?_
    rintro e w' ⟨rfl, rfl⟩
    exact ⟨rfl, h, Below.refl B _⟩

theorem byteCells_snoc (l : List UInt8) (c : UInt8) : Lib.byteCells (l ++ [c]) = Lib.byteCells l ++ [.int .u8 (c.toNat : Int)] := by simp [Lib.byteCells]

end Go.Proofs.YtllboenffepcgaaDoor
namespace Go.Proofs.YtllboenffepcgaaDoor
open Go.Lib

def consQ (c : UInt8) (k : Nat) (o : Option (List UInt8 × Nat)) : Option (List UInt8 × Nat) := o.map fun x => (c :: x.1, x.2 + k)
/-- Behind the first mark: the bytes, and how many were read. -/
def sq : List UInt8 → Option (List UInt8 × Nat)
  | [] => none
  | c :: r =>
    if c = 34 then some ([], 1)
    else if c = 92 then (match r with
      | [] => none
      | d :: r' => if d = 34 ∨ d = 92 then consQ d 2 (sq r') else none)
    else if textB c.toNat then consQ c 1 (sq r) else none
/-- ScanQuoted: the bytes, and the offset behind the form. -/
def scanQ (l : List UInt8) (at0 : Int) : Option (List UInt8 × Nat) :=
  if 0 ≤ at0 ∧ at0 < l.length ∧ l[at0.toNat]? = some 34 then (sq (l.drop (at0.toNat + 1))).map fun x => (x.1, at0.toNat + 1 + x.2) else none

/-- Where the first byte c is. -/
def firstIx (c : UInt8) : List UInt8 → Option Nat
  | [] => none
  | x :: l => if x = c then some 0 else (firstIx c l).map (· + 1)
theorem firstIx_some {c : UInt8} : ∀ {l : List UInt8} {i : Nat}, firstIx c l = some i → ∃ a b, l = a ++ c :: b ∧ a.length = i ∧ c ∉ a
  | [], _, h => by cases h
  | x :: l, i, h => by
    unfold firstIx at h
    by_cases hx : x = c
    · rw [if_pos hx] at h
      injection h with h
      exact ⟨[], l, by rw [hx]; rfl, by rw [← h]; rfl, by simp⟩
    · rw [if_neg hx] at h
      cases hl : firstIx c l with
      | none => rw [hl] at h; cases h
      | some j =>
        rw [hl] at h
        injection h with h
        obtain ⟨a, b, rfl, ha, hb⟩ := firstIx_some hl
        refine ⟨x :: a, b, rfl, by rw [List.length_cons, ha]; exact h, ?_⟩
        intro hm
        rcases List.mem_cons.1 hm with e | e
        · exact hx e.symm
        · exact hb e
theorem firstIx_none {c : UInt8} : ∀ {l : List UInt8}, firstIx c l = none → c ∉ l
  | [], _ => by simp
  | x :: l, h => by
    unfold firstIx at h
    by_cases hx : x = c
    · rw [if_pos hx] at h; cases h
    · rw [if_neg hx] at h
      cases hl : firstIx c l with
      | some j => rw [hl] at h; cases h
      | none =>
        have h1 := firstIx_none hl
        intro hm
        rcases List.mem_cons.1 hm with e | e
        · exact hx e.symm
        · exact h1 e
theorem firstIx_mk {c : UInt8} {b : List UInt8} : ∀ {a : List UInt8}, c ∉ a → firstIx c (a ++ c :: b) = some a.length
  | [], _ => by show firstIx c (c :: b) = some 0; unfold firstIx; rw [if_pos rfl]
  | x :: a, h => by
    show firstIx c (x :: (a ++ c :: b)) = _
    unfold firstIx
    rw [if_neg (fun e => h (by rw [e]; simp)), firstIx_mk (fun hm => h (List.mem_cons_of_mem _ hm))]
    rfl

/-- ScanLiteral: the bytes, and the offset behind the form. -/
def scanL (l : List UInt8) (at0 : Int) : Option (List UInt8 × Nat) :=
  if 0 ≤ at0 ∧ at0 < l.length ∧ l[at0.toNat]? = some 123 then
    (match firstIx 125 (l.drop (at0.toNat + 1)) with
      | none => none
      | some i =>
        match numB ((l.drop (at0.toNat + 1)).take i) with
        | none => none
        | some n =>
          if n ≤ 65536 ∧ l[at0.toNat + 1 + i + 1]? = some 13 ∧ l[at0.toNat + 1 + i + 2]? = some 10 ∧ at0.toNat + 1 + i + 3 + n ≤ l.length then
            some ((l.drop (at0.toNat + 1 + i + 3)).take n, at0.toNat + 1 + i + 3 + n)
          else none)
  else none
end Go.Proofs.YtllboenffepcgaaDoor
