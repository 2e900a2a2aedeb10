/- Plain laws on reading a literal form. · Plain laws on tokens: what a command is divided into. · Where the first byte is, in the shelf's words. · The walk of slices.Equal over bytes. · The walks of the scanner of package quote. · The walk of the scanner's method quoted. · The walks of token.Tag and of the reference's Tag. -/
import Derived.Test.YtkifhgnoadmfkaaDoorJ1
import Derived.Test.YtkifhgnoadmfkaaDoorJ3
set_option linter.unusedVariables false
set_option linter.unusedSimpArgs false
namespace Go.Proofs.YtkifhgnoadmfkaaDoor
open Go.Lib

theorem scanL_no (l : List UInt8) (a : Int) (h : a < 0 ∨ (l.length : Int) ≤ a) : scanL l a = none := by
  unfold scanL; rw [if_neg (by omega)]
theorem scanL_bad (l : List UInt8) (k : Nat) (hk : k < l.length) (h : l[k] ≠ 123) : scanL l k = none := by
  unfold scanL
  rw [if_neg]
  rintro ⟨_, _, e⟩
  rw [Int.toNat_natCast, List.getElem?_eq_getElem hk] at e
  exact h (by injection e)
theorem scanL_at (l : List UInt8) (k : Nat) (hk : k < l.length) (h : l[k] = 123) : scanL l k = (match firstIx 125 (l.drop (k + 1)) with
      | none => none
      | some i =>
        match numB ((l.drop (k + 1)).take i) with
        | none => none
        | some n =>
          if n ≤ 65536 ∧ l[k + 1 + i + 1]? = some 13 ∧ l[k + 1 + i + 2]? = some 10 ∧ k + 1 + i + 3 + n ≤ l.length then
            some ((l.drop (k + 1 + i + 3)).take n, k + 1 + i + 3 + n)
          else none) := by
  unfold scanL
  rw [if_pos ⟨by omega, by omega, by rw [Int.toNat_natCast, List.getElem?_eq_getElem hk, h]⟩, Int.toNat_natCast]
  rfl
/-- No mark at offsets k + 1 up to i. -/
abbrev NoMark (l : List UInt8) (k i : Nat) : Prop := ∀ j (hj : j < l.length), k < j → j < i → l[j] ≠ 125
theorem NoMark.next {l : List UInt8} {k i : Nat} (h : NoMark l k i) (hi : i < l.length) (e : l[i] ≠ 125) : NoMark l k (i + 1) := fun j hj h1 h2 => by
  rcases Nat.lt_or_ge j i with h3 | h3
  · exact h j hj h1 h3
  · obtain rfl : j = i := by omega
    exact e
theorem NoMark.first {l : List UInt8} {k i : Nat} (h : NoMark l k (k + 1 + i)) (hi : k + 1 + i < l.length) (e : l[k + 1 + i] = 125) : firstIx 125 (l.drop (k + 1)) = some i := by
  have e1 : l.drop (k + 1) = (l.drop (k + 1)).take i ++ 125 :: (l.drop (k + 1 + i + 1)) := by
    conv => lhs; rw [← List.take_append_drop i (l.drop (k + 1))]
    rw [List.drop_drop, List.drop_eq_getElem_cons hi, e]
  rw [e1, firstIx_mk, List.length_take, List.length_drop, Nat.min_eq_left (by omega)]
  intro hm
  obtain ⟨j, hj, e2⟩ := List.getElem_of_mem hm
  rw [List.getElem_take, List.getElem_drop] at e2
  rw [List.length_take, List.length_drop] at hj
  exact h (k + 1 + j) (by omega) (by omega) (by omega) e2
theorem NoMark.whole {l : List UInt8} {k : Nat} (h : NoMark l k l.length) : firstIx 125 (l.drop (k + 1)) = none := by
  cases hf : firstIx 125 (l.drop (k + 1)) with
  | none => rfl
  | some i =>
    obtain ⟨a, b, e, ha, _⟩ := firstIx_some hf
    have hl : (l.drop (k + 1)).length = a.length + 1 + b.length := by rw [e]; simp; omega
    rw [List.length_drop] at hl
    have : l[k + 1 + a.length]'(by omega) = 125 := by
      have h1 : (l.drop (k + 1))[a.length]? = some 125 := by rw [e]; simp
      rw [List.getElem?_drop] at h1
      exact (List.getElem?_eq_some_iff.1 h1).2
    exact absurd this (h _ (by omega) (by omega) (by omega))
theorem numB_far {l : List UInt8} (h : 10 < l.length) : numB l = none := by unfold numB; rw [if_pos h]
theorem NoMark.far {l : List UInt8} {k : Nat} (h : NoMark l k (k + 14)) (hk : k < l.length) (e : l[k] = 123) : scanL l k = Option.none := by
  rw [scanL_at l k hk e]
  cases hf : firstIx 125 (l.drop (k + 1)) with
  | none => rfl
  | some i =>
    obtain ⟨a, b, e1, ha, _⟩ := firstIx_some hf
    have hl : (l.drop (k + 1)).length = a.length + 1 + b.length := by rw [e1]; simp; omega
    rw [List.length_drop] at hl
    have : l[k + 1 + a.length]'(by omega) = 125 := by
      have h1 : (l.drop (k + 1))[a.length]? = some 125 := by rw [e1]; simp
      rw [List.getElem?_drop] at h1
      exact (List.getElem?_eq_some_iff.1 h1).2
    have hi : 13 ≤ i := by
      rcases Nat.lt_or_ge i 13 with h3 | h3
      · exact absurd this (h _ (by omega) (by omega) (by omega))
      · exact h3
    simp only [numB_far (l := (l.drop (k + 1)).take i) (by rw [List.length_take, List.length_drop]; omega)]
theorem scanL_nomark {l : List UInt8} {k : Nat} (hk : k < l.length) (e : l[k] = 123) (h : firstIx 125 (l.drop (k + 1)) = none) : scanL l k = none := by
  rw [scanL_at l k hk e, h]
theorem scanL_nonum {l : List UInt8} {k i : Nat} (hk : k < l.length) (e : l[k] = 123) (h : firstIx 125 (l.drop (k + 1)) = some i) (hn : numB ((l.drop (k + 1)).take i) = none) : scanL l k = none := by
  rw [scanL_at l k hk e, h]; simp only [hn]
theorem scanL_num {l : List UInt8} {k i n : Nat} (hk : k < l.length) (e : l[k] = 123) (h : firstIx 125 (l.drop (k + 1)) = some i) (hn : numB ((l.drop (k + 1)).take i) = some n) :
    scanL l k = if n ≤ 65536 ∧ l[k + 1 + i + 1]? = some 13 ∧ l[k + 1 + i + 2]? = some 10 ∧ k + 1 + i + 3 + n ≤ l.length then some ((l.drop (k + 1 + i + 3)).take n, k + 1 + i + 3 + n) else none := by
  rw [scanL_at l k hk e, h]; simp only [hn]
end Go.Proofs.YtkifhgnoadmfkaaDoor
namespace Go.Proofs.YtkifhgnoadmfkaaDoor
open Go.Lib

structure Tok where
  kind : Nat
  text : List UInt8
  at0 : Nat
def wordB (c : UInt8) : Bool := decide (32 < c.toNat) && decide (c.toNat ≤ 126) && !(c == 40 || c == 41 || c == 34 || c == 123)
/-- The token at an offset that is not behind the end, and the offset behind it. -/
def nextT (b : List UInt8) (k : Nat) : Option (Tok × Nat) :=
  match b[k]? with
  | none => some (⟨0, [], k⟩, k)
  | some c =>
    if c = 32 then some (⟨1, [], k⟩, k + 1)
    else if c = 40 then some (⟨2, [], k⟩, k + 1)
    else if c = 41 then some (⟨3, [], k⟩, k + 1)
    else if c = 34 then (scanQ b k).map fun x => (⟨5, x.1, k⟩, x.2)
    else if c = 123 then (scanL b k).map fun x => (⟨6, x.1, k⟩, x.2)
    else if wordB c then some (⟨4, (b.drop k).takeWhile wordB, k⟩, k + ((b.drop k).takeWhile wordB).length)
    else none
/-- The tokens from an offset on, or the first offset where none begins. -/
def toksT (b : List UInt8) : Nat → Nat → List Tok ⊕ Nat
  | 0, k => .inr k
  | n + 1, k => match nextT b k with
    | none => .inr k
    | some (t, j) => if t.kind = 0 then .inl [t] else match toksT b n j with
      | .inl l => .inl (t :: l)
      | .inr e => .inr e
def tokens (b : List UInt8) : List Tok ⊕ Nat := toksT b (b.length + 1) 0
/-- Tag. -/
def tagT (b : List UInt8) (p : UInt8 → Bool) : Option (List UInt8 × Nat) :=
  match firstIx 32 b with
  | none => none
  | some i => if i ≠ 0 ∧ (b.take i).all p = true then some (b.take i, i + 1) else none
theorem mem_take {b : List UInt8} {i j : Nat} (hj : j < b.length) (hij : j < i) : b[j] ∈ b.take i := by
  rw [List.mem_iff_getElem]
  exact ⟨j, by rw [List.length_take]; omega, by rw [List.getElem_take]⟩
/-- The tag's end, as the reference finds it. -/
theorem tag_end {b : List UInt8} {p : UInt8 → Bool} (h32 : p 32 = false) (ha : b.all p = true) : tagT b p = none := by
  unfold tagT
  cases hf : firstIx 32 b with
  | none => rfl
  | some i =>
    obtain ⟨x, y, rfl, _, _⟩ := firstIx_some hf
    rw [List.all_eq_true] at ha
    have := ha 32 (by simp)
    rw [h32] at this
    cases this
theorem tag_sp {b : List UInt8} {p : UInt8 → Bool} {k : Nat} (h32 : p 32 = false) (hk : k < b.length) (ha : (b.take k).all p = true) (e : b[k] = 32) : tagT b p = if k ≠ 0 then some (b.take k, k + 1) else none := by
  have hn : (32 : UInt8) ∉ b.take k := fun h => by
    rw [List.all_eq_true] at ha
    have := ha 32 h
    rw [h32] at this
    cases this
  have e1 : b = b.take k ++ 32 :: b.drop (k + 1) := by
    conv => lhs; rw [← List.take_append_drop k b, List.drop_eq_getElem_cons hk, e]
  have hf : firstIx 32 b = some k := by
    rw [e1, firstIx_mk hn, List.length_take]; congr 1; omega
  unfold tagT
  rw [hf]
  by_cases h0 : k = 0
  · simp [h0]
  · simp only [ne_eq, h0, not_false_eq_true, true_and, ha, if_true]
theorem tag_bad {b : List UInt8} {p : UInt8 → Bool} {k : Nat} (h32 : p 32 = false) (hk : k < b.length) (ha : (b.take k).all p = true) (hp : p b[k] = false) (e : b[k] ≠ 32) : tagT b p = none := by
  unfold tagT
  cases hf : firstIx 32 b with
  | none => rfl
  | some i =>
    obtain ⟨x, y, hxy, hi, hx⟩ := firstIx_some hf
    have hil : i < b.length := by rw [hxy, ← hi]; simp
    have hib : b[i] = 32 := by
      have : b[i]? = some 32 := by rw [hxy, ← hi]; simp
      exact (List.getElem?_eq_some_iff.1 this).2
    have hki : k < i := by
      rcases Nat.lt_trichotomy k i with h | h | h
      · exact h
      · subst h; exact absurd hib e
      · exfalso
        rw [List.all_eq_true] at ha
        have := ha _ (mem_take hil h)
        rw [hib, h32] at this
        cases this
    have : ¬ (b.take i).all p = true := fun h => by
      rw [List.all_eq_true] at h
      have := h _ (mem_take hk hki)
      rw [hp] at this
      cases this
    simp [this]
end Go.Proofs.YtkifhgnoadmfkaaDoor
namespace Go.Proofs.YtkifhgnoadmfkaaDoor
open Go.RowKit

theorem firstIx_lib (c : UInt8) : ∀ l : List UInt8, Lib.indexByte l c = ixV (firstIx c l)
  | [] => rfl
  | x :: l => by
    have ih := firstIx_lib c l
    unfold Lib.indexByte firstIx
    by_cases hx : x = c
    · rw [if_pos hx, if_pos (beq_iff_eq.2 hx)]; rfl
    · rw [if_neg hx, if_neg (fun e => hx (beq_iff_eq.1 e)), ih]
      cases firstIx c l with
      | none => rfl
      | some j =>
        have : ((j : Int) == -1) = false := by rw [beq_eq_false_iff_ne]; omega
        simp [ixV, this]
end Go.Proofs.YtkifhgnoadmfkaaDoor
namespace Go.Proofs.YtkifhgnoadmfkaaDoor
open Go.RowKit

theorem take_ne {l m : List UInt8} {k : Nat} (h1 : k < l.length) (h2 : k < m.length) (h : l[k] ≠ m[k]) : l ≠ m := by
  rintro rfl; exact h rfl
theorem take_all {l m : List UInt8} (hlm : l.length = m.length) {k : Nat} (hk : l.length ≤ k) (h : l.take k = m.take k) : l = m := by
  rwa [List.take_of_length_le hk, List.take_of_length_le (by omega)] at h
theorem take_next {l m : List UInt8} {k : Nat} (h1 : k < l.length) (h2 : k < m.length) (h : l.take k = m.take k) (e : l[k] = m[k]) : l.take (k + 1) = m.take (k + 1) := by
  rw [List.take_succ_eq_append_getElem h1, List.take_succ_eq_append_getElem h2, h, e]

set_option maxRecDepth 100000 in
set_option maxHeartbeats 800000 in
theorem equal_any (p q : Option Addr) (cap cap' : Nat) (l m : List UInt8) (w : World) (B B' : Nat) (h : Bys w B p l) (h' : Bys w B' q m) (hl : l.length ≤ 1048576) (hm : m.length ≤ 1048576) :
    Calls Tryd.prog 15 #[.slice p l.length cap, .slice q m.length cap'] w fun e w' => e = .returned (.bool (decide (l = m))) ∧ Below w.heap.size w w' := by
  by_cases hlm : l.length = m.length
  · have HC := Lib.hid (fun k (hk : k < l.length) => And.intro (h.at (by omega)) (h'.at (by omega)))
    obtain ⟨n, hn⟩ : ∃ n, n = l.length := ⟨_, rfl⟩
    have hn' : n = m.length := by omega
    rw [← hn, ← hn']
    have HN := Lib.hid hn
    have HM := Lib.hid hn'
    have hnb : n ≤ 1048576 := by omega
    clear h h' hl hm hlm hn hn'
    go_enter Tryd.func15, Tryd.ntmps15
    go_wp2_with fail
    go_loopw [13] (fun i wr => ∃ k : Nat, k ≤ n ∧ i = .int .i64 (k : Int) ∧ (∃ j, wr = w.drewN j) ∧ l.take k = m.take k) (fun i _ => n - (intOf i).toNat)
    case atStart => exact ⟨0, Nat.zero_le _, rfl, ⟨0, rfl⟩, rfl⟩
    case round =>
      obtain ⟨k, hk, rfl, ⟨j, rfl⟩, ha⟩ := hrel
      have A := Lib.hid ha
      clear ha
      by_cases hlt : k < n
      · have hk1 : k < l.length := by have := HN.out; omega
        have hk2 : k < m.length := by have := HM.out; omega
        obtain ⟨⟨b, o, rfl, _, c1⟩, ⟨b', o', rfl, _, c2⟩⟩ := HC.out k hk1
        have d1 : w.cell? ⟨b, o + k, none⟩ = some (.int .u8 (l[k].toNat : Int)) := c1 k hk1
        have d2 : w.cell? ⟨b', o' + k, none⟩ = some (.int .u8 (m[k].toNat : Int)) := c2 k hk2
        have hi0 : (0 : Int) ≤ k := by omega
        have hi1 : (k : Int) < n := by omega
        clear c1 c2
        by_cases he : l[k] = m[k]
        · have R := Lib.hid (take_next hk1 hk2 A.out he)
          have e1 : ((l[k].toNat : Int) != (m[k].toNat : Int)) = false := by rw [he, bne_self_eq_false]
          generalize (l[k].toNat : Int) = x at d1 e1
          generalize (m[k].toNat : Int) = y at d2 e1
          clear he hk1 hk2
          go_wp2_with fail
          go_quiet (fail)
          go_wp2_with fail
          go_roundw
          case rel => exact ⟨k + 1, by omega, by go_num, ⟨j + nq, rfl⟩, R.out⟩
          case measure => simp [intOf]; omega
        · have R := Lib.hid (decide_eq_false (take_ne hk1 hk2 he))
          have e1 : ((l[k].toNat : Int) != (m[k].toNat : Int)) = true := by
            rw [bne_iff_ne]; intro e; exact he (UInt8.toNat_inj.1 (by omega))
          generalize (l[k].toNat : Int) = x at d1 e1
          generalize (m[k].toNat : Int) = y at d2 e1
          clear he hk1 hk2
          go_wp2_with fail
          go_quiet (fail)
          go_wp2_with fail
          go_ret
          exact ⟨by rw [R.out]; rfl, YtkifhgnoadmfkaaDoor.Below.many (YtkifhgnoadmfkaaDoor.Below.many (Below.refl _ _) j) nq⟩
      · have R := Lib.hid (decide_eq_true (take_all (by rw [← HN.out, ← HM.out]) (by rw [← HN.out]; omega) A.out))
        go_wp2_with fail
        go_ret
        exact ⟨by rw [R.out]; rfl, YtkifhgnoadmfkaaDoor.Below.many (Below.refl _ _) _⟩
  · have e1 : ((l.length : Int) != (m.length : Int)) = true := by rw [bne_iff_ne]; omega
    have e2 : decide (l = m) = false := decide_eq_false (fun e => hlm (by rw [e]))
    rw [e2]
    generalize l.length = n at *
    generalize m.length = n' at *
    clear h h' e2 hlm
    go_enter Tryd.func15, Tryd.ntmps15
    go_wp2_with fail
    go_ret
    exact ⟨rfl, Below.refl _ _⟩
end Go.Proofs.YtkifhgnoadmfkaaDoor
namespace Go.Proofs.YtkifhgnoadmfkaaDoor
open Go.RowKit

set_option maxRecDepth 100000 in
set_option maxHeartbeats 800000 in
theorem take_yes (g : Nat) (p o : Nat) (n c : Nat) (k : Nat) (x : Int) (out : Value) (w : World) (h : Blk w g 130 #[.slice (some ⟨p, o, none⟩) n c, .int .i64 k, out]) (hk : k < n) (hn : n ≤ 1048576)
    (hx : w.cell? ⟨p, o + k, none⟩ = some (.int .u8 x)) (hg : p ≠ g) :
    Calls Tryd.prog 83 #[.pointer (some ⟨g, 0, none⟩)] w fun e w' => e = .returned (.tuple #[.int .u8 x, .bool true]) ∧ ∃ i, w' = (w.setCell ⟨g, 1, none⟩ (.int .i64 ((k : Int) + 1))).drewN i := by
  have c0 : w.cell? ⟨g, 0, none⟩ = some (.slice (some ⟨p, o, none⟩) n c) := by rw [h.cell]; rfl
  have c1 : w.cell? ⟨g, 1, none⟩ = some (.int .i64 k) := by rw [h.cell]; rfl
  have f1 : w.frozen? ⟨g, 1, none⟩ = false := h.frz 1
  have hd0 : decide ((k : Int) < 0) = false := decide_eq_false (by omega)
  have hd1 : decide ((n : Int) ≤ (k : Int)) = false := decide_eq_false (by omega)
  have hi0 : (0 : Int) ≤ k := by omega
  have hi1 : (k : Int) < n := by omega
  have hi2 : (k : Int) ≤ 1048576 := by omega
  have hb := h.put 1 (.int .i64 ((k : Int) + 1))
  have d0 : (w.setCell ⟨g, 1, none⟩ (.int .i64 ((k : Int) + 1))).cell? ⟨g, 0, none⟩ = some (.slice (some ⟨p, o, none⟩) n c) := by rw [hb.cell]; rfl
  have d1 : (w.setCell ⟨g, 1, none⟩ (.int .i64 ((k : Int) + 1))).cell? ⟨g, 1, none⟩ = some (.int .i64 ((k : Int) + 1)) := by rw [hb.cell]; rfl
  have dx : (w.setCell ⟨g, 1, none⟩ (.int .i64 ((k : Int) + 1))).cell? ⟨p, o + k, none⟩ = some (.int .u8 x) := by
    rw [← hx]
    exact World.cell?_setCell_far _ _ _ _ (fun e => hg e.symm)
  clear hb h
  have D := Lib.hid (And.intro d0 (And.intro d1 dx))
  clear d0 d1 dx hx
  go_enter Tryd.func83, Tryd.ntmps83
  go_wp2_with fail
  go_quiet (fail)
  go_wp2_with fail
  change Code.wp _ _ _ _ ((w.setCell ⟨g, 1, none⟩ (.int .i64 ((k : Int) + 1))).drewN nq)
  obtain ⟨d0, d1, dx⟩ := D.out
  clear c0 c1 f1 D
  generalize hw1 : w.setCell ⟨g, 1, none⟩ (.int .i64 ((k : Int) + 1)) = w1 at *
  have HW := Lib.hid hw1
  clear hw1
  go_quiet (fail)
  go_wp2_with fail
  go_ret2
  exact ⟨rfl, _, by rw [HW.out, World.drewN_drewN]⟩

set_option maxRecDepth 100000 in
set_option maxHeartbeats 800000 in
theorem take_no (g : Nat) (p : Option Addr) (n c : Nat) (k : Int) (out : Value) (w : World) (h : Blk w g 130 #[.slice p n c, .int .i64 k, out]) (hk : k < 0 ∨ (n : Int) ≤ k) :
    Calls Tryd.prog 83 #[.pointer (some ⟨g, 0, none⟩)] w fun e w' => e = .returned (.tuple #[.int .u8 0, .bool false]) ∧ ∃ i, w' = w.drewN i := by
  have c0 : w.cell? ⟨g, 0, none⟩ = some (.slice p n c) := by rw [h.cell]; rfl
  have c1 : w.cell? ⟨g, 1, none⟩ = some (.int .i64 k) := by rw [h.cell]; rfl
  clear h
  by_cases h0 : k < 0
  · have hd0 : decide (k < 0) = true := decide_eq_true h0
    clear hk h0
    go_enter Tryd.func83, Tryd.ntmps83
    go_wp2_with fail
    go_quiet (fail)
    go_wp2_with fail
    go_ret2
    exact ⟨rfl, _, rfl⟩
  · have hd0 : decide (k < 0) = false := decide_eq_false h0
    have hd1 : decide ((n : Int) ≤ k) = true := decide_eq_true (by omega)
    clear hk h0
    go_enter Tryd.func83, Tryd.ntmps83
    go_wp2_with fail
    go_quiet (fail)
    go_wp2_with fail
    go_ret2
    exact ⟨rfl, _, rfl⟩

set_option maxRecDepth 100000 in
set_option maxHeartbeats 800000 in
theorem is_yes (g : Nat) (p o : Nat) (n c : Nat) (k : Nat) (x v : Int) (b : Bool) (out : Value) (w : World) (h : Blk w g 130 #[.slice (some ⟨p, o, none⟩) n c, .int .i64 k, out]) (hk : k < n) (hn : n ≤ 1048576)
    (hx : w.cell? ⟨p, o + k, none⟩ = some (.int .u8 x)) (hg : p ≠ g) (hv : (x == v) = b) :
    Calls Tryd.prog 82 #[.pointer (some ⟨g, 0, none⟩), .int .u8 v] w fun e w' => e = .returned (.bool b) ∧ ∃ i, w' = (w.setCell ⟨g, 1, none⟩ (.int .i64 ((k : Int) + 1))).drewN i := by
  have H := Lib.hid (take_yes g p o n c k x out w h hk hn hx hg)
  clear h hk hn hx hg
  go_enter Tryd.func82, Tryd.ntmps82
  go_wp2_with fail
  refine H.out.mono ?_
  rintro e w1 ⟨rfl, i, hi⟩
  have HI := Lib.hid hi
  clear hi
  go_wp2_with fail
  go_ret
  exact ⟨by simp only [hv]; rfl, i, HI.out⟩
set_option maxRecDepth 100000 in
set_option maxHeartbeats 800000 in
theorem is_no (g : Nat) (p : Option Addr) (n c : Nat) (k v : Int) (out : Value) (w : World) (h : Blk w g 130 #[.slice p n c, .int .i64 k, out]) (hk : k < 0 ∨ (n : Int) ≤ k) :
    Calls Tryd.prog 82 #[.pointer (some ⟨g, 0, none⟩), .int .u8 v] w fun e w' => e = .returned (.bool false) ∧ ∃ i, w' = w.drewN i := by
  have H := Lib.hid (take_no g p n c k out w h hk)
  clear h hk
  go_enter Tryd.func82, Tryd.ntmps82
  go_wp2_with fail
  refine H.out.mono ?_
  rintro e w1 ⟨rfl, i, hi⟩
  have HI := Lib.hid hi
  clear hi
  go_wp2_with fail
  go_ret
  exact ⟨rfl, i, HI.out⟩
end Go.Proofs.YtkifhgnoadmfkaaDoor
namespace Go.Proofs.YtkifhgnoadmfkaaDoor
open Go.RowKit

/-- The scanner's state: where it lies, its cursor, and what it has read. -/
def St (w0 w : World) (g : Nat) (P : Option Addr) (n c : Nat) (k : Int) (out : Value) (m : List UInt8) : Prop :=
  Blk w g 130 #[.slice P n c, .int .i64 k, out] ∧ Buf w (g + 1) 1 out m.length (Lib.byteCells m) ∧ Below g w0 w

section
variable {w0 w w' : World} {g : Nat} {P : Option Addr} {n c : Nat} {k k' : Int} {out : Value} {m : List UInt8}
theorem Buf.not_own {w : World} {g : Nat} {out : Value} {z : Nat} {xs : List Value} (h : Buf w (g + 1) 1 out z xs) : ∀ j, out.ownBlock = some j → g + 1 ≤ j := by
  intro j hj
  rcases h.2 with ⟨rfl, _⟩ | ⟨b, off, cap, rfl, hb, _⟩
  · simp [Value.ownBlock] at hj
  · simp only [Value.ownBlock, Option.some.injEq] at hj; omega
theorem St.take (h : St w0 w g P n c k out m) {i : Nat} (e : w' = (w.setCell ⟨g, 1, none⟩ (.int .i64 k')).drewN i) : St w0 w' g P n c k' out m := by
  subst e
  obtain ⟨h1, h2, h3⟩ := h
  refine ⟨(h1.put 1 (.int .i64 k')).drewN i, (h2.far (fun e => ?_) _).drewN i, YtkifhgnoadmfkaaDoor.Below.many (h3.setCell (p := ⟨g, 1, none⟩) (Nat.le_refl _) _) i⟩
  have := h2.not_own g e
  omega
theorem St.shape (h : St w0 w g P n c k out m) : ∃ p4 n4 c4, out = .slice p4 n4 c4 := by
  obtain ⟨p4, c4, e, _⟩ := h.2.1.bys
  exact ⟨p4, _, c4, e⟩
theorem St.drewN (h : St w0 w g P n c k out m) (i : Nat) : St w0 (w.drewN i) g P n c k out m := ⟨h.1.drewN i, h.2.1.drewN i, YtkifhgnoadmfkaaDoor.Below.many h.2.2 i⟩
theorem St.below (h : St w0 w g P n c k out m) (hb : Below w.heap.size w w') : St w0 w' g P n c k out m :=
  ⟨h.1.below hb h.1.lt, h.2.1.below hb (Nat.le_refl _), h.2.2.trans (hb.mono (Nat.le_of_lt h.1.lt))⟩
theorem St.app (h : St w0 w g P n c k out m) (y : UInt8) (hm : m.length ≤ 1048576) :
    ∃ v' w', (Builtin.append_ #[22, 22] 22 #[out, .slice (some ⟨w.heap.size, 0, none⟩) 1 1]).run Tryd.prog (w.alloc (.cells #[.int .u8 (y.toNat : Int)] 5)) = .ok v' w' ∧ St w0 (w'.setCell ⟨g, 2, none⟩ v') g P n c k v' (m ++ [y]) ∧
      w'.frozen? ⟨g, 2, none⟩ = false ∧ w'.cell? ⟨g, 2, none⟩ = some out := by
  obtain ⟨h1, h2, h3⟩ := h
  have hb0 : Below w.heap.size w (w.alloc (.cells #[.int .u8 (y.toNat : Int)] 5)) := (Below.refl _ _).alloc (Nat.le_refl _) _
  have hh := heap_alloc_new w (.cells #[.int .u8 (y.toNat : Int)] 5)
  obtain ⟨i0, hi, hz0, hz1, hz2⟩ := info_parts infoU8
  have hsrc : Src (w.alloc (.cells #[.int .u8 (y.toNat : Int)] 5)) 1 (some ⟨w.heap.size, 0, none⟩) 1 (Lib.byteCells [y]) :=
    ⟨rfl, Lib.byteCells_one [y], fun _ => ⟨_, rfl, fun j u hj => by
      have hj' : j < 1 := by have := (List.getElem?_eq_some_iff.1 hj).1; simpa [Lib.byteCells] using this
      obtain rfl : j = 0 := by omega
      rw [Go.WideShapes.add_plain]
      simp only [World.cell?, hh]
      exact hj⟩⟩
  have h2' := h2.below hb0 (Nat.le_refl _)
  have h1' := h1.below hb0 h1.lt
  obtain ⟨v', w', hrun, hbuf, hgr, hown⟩ := run_append_buf (P := Tryd.prog) _ 22 22 5 i0 (.int .u8 0) 1 1 Tryd.underlying22 hi hz0 hz1 hz2 rfl (by decide) (g + 1) out m.length _ h2' (some ⟨w.heap.size, 0, none⟩) 1 1 _ hsrc (by unfold maxLen; omega) (by omega) (by have := h1'.lt; omega)
  have hb1 : Blk w' g 130 #[.slice P n c, .int .i64 k, out] := by
    unfold Blk
    rw [hgr.block g h1'.lt (fun e => by have := h2'.not_own g e.symm; omega)]
    exact h1'
  rw [← byteCells_app] at hbuf
  have hB : Below g w0 w' := (h3.trans (hb0.mono (Nat.le_of_lt h1.lt))).grown hgr (Nat.le_of_lt h1'.lt) (fun j hj => by have := h2'.not_own j hj; omega)
  refine ⟨v', w', hrun, ⟨hb1.put 2 v', ?_, hB.setCell (p := ⟨g, 2, none⟩) (Nat.le_refl _) _⟩, hb1.frz 2, by rw [hb1.cell]; rfl⟩
  have hn : v'.ownBlock ≠ some g := fun e => by have := hbuf.not_own g e; omega
  have := hbuf.far (p := ⟨g, 2, none⟩) hn v'
  rw [show (m ++ [y]).length = m.length + 1 by simp]
  exact this
end

/-- What a method of the scanner leaves: false, or the bytes and the new offset. -/
def ScanPost (w0 : World) (g : Nat) (P : Option Addr) (n c : Nat) (o : Option (List UInt8 × Nat)) (e : Ending) (w' : World) : Prop :=
  match o with
  | none => e = .returned (.bool false) ∧ Below g w0 w'
  | some (m, j) => e = .returned (.bool true) ∧ ∃ out, St w0 w' g P n c (j : Int) out m

def curAt (w : World) (g : Nat) : Nat := (intOf ((w.cell? ⟨g, 1, none⟩).getD undef)).toNat
theorem St.cur {w0 w : World} {g : Nat} {P : Option Addr} {n c k : Nat} {out : Value} {m : List UInt8} (h : St w0 w g P n c (k : Int) out m) : curAt w g = k := by
  unfold curAt; rw [h.1.cell]; simp [intOf]
end Go.Proofs.YtkifhgnoadmfkaaDoor
namespace Go.Proofs.YtkifhgnoadmfkaaDoor
open Go.RowKit

/-- bytes.IndexByte, nil too. -/
theorem idx_any (P : Option Addr) (cap : Nat) (l : List UInt8) (c : UInt8) (v : Int) (hv : v = (c.toNat : Int)) (w : World) (B : Nat) (h : Bys w B P l) (hP : P = none → l.length = 0 ∧ cap = 0) :
    Calls Tryd.prog 19 #[.slice P l.length cap, .int .u8 v] w fun e w' => e = .returned (.int .i64 (ixV (firstIx c l))) ∧ w = w' := by
  subst hv
  cases P with
  | none =>
    obtain ⟨h0, h1⟩ := hP rfl
    have hl : l = [] := List.eq_nil_of_length_eq_zero h0
    subst hl
    subst h1
    refine (Tryd.bytes_IndexByte_nil (c.toNat : Int) w).mono ?_
    rintro e w' ⟨rfl, rfl⟩
    exact ⟨rfl, rfl⟩
  | some q =>
    refine (Tryd.bytes_IndexByte_at q l.length cap (ints l) (c.toNat : Int) w (ints_length l) (fun i hi => ?_)).mono ?_
    · obtain ⟨b, o, e, hb, hc⟩ := h (by omega)
      injection e with e
      subst e
      rw [Go.WideShapes.add_plain, hc i hi]; simp [ints, hi]
    · rintro e w' ⟨rfl, rfl⟩
      have ec : ((c.toNat : Int)).toNat.toUInt8 = c := by rw [Int.toNat_natCast]; exact UInt8.ofNat_toNat
      rw [bytesOf_ints, ec, firstIx_lib]
      exact ⟨rfl, rfl⟩

def tgB (c : UInt8) : Bool := tagB (c.toNat : Int)
def tagV (o : Option (List UInt8 × Nat)) : Value := .tuple #[.string (ofL ((o.map (·.1)).getD [])), .int .i64 (((o.map (·.2)).getD 0 : Nat) : Int), .bool o.isSome]
theorem tagV_none : tagV none = .tuple #[.string ⟨#[]⟩, .int .i64 0, .bool false] := rfl
theorem tagV_some (m : List UInt8) (j : Nat) : tagV (some (m, j)) = .tuple #[.string (ofL m), .int .i64 (j : Int), .bool true] := rfl
theorem tg32 : tgB 32 = false := by decide

set_option maxRecDepth 100000 in
set_option maxHeartbeats 800000 in
theorem tokTag_any (P : Option Addr) (cap : Nat) (l : List UInt8) (w : World) (h : Bys w w.heap.size P l) (hP : P = none → l.length = 0 ∧ cap = 0) (hl : l.length ≤ 1048576) (hcap : l.length ≤ cap) :
    Calls Tryd.prog 9 #[.slice P l.length cap] w fun e w' => e = .returned (tagV (tagT l tgB)) ∧ Below w.heap.size w w' := by
  have HI := Lib.hid (idx_any P cap l 32 32 rfl w _ h hP)
  cases hf : firstIx 32 l with
  | none =>
    rw [hf, show ixV none = -1 from rfl] at HI
    have R : tagT l tgB = none := by unfold tagT; rw [hf]
    rw [R, tagV_none]
    clear R hf h hP hcap
    generalize l.length = n at *
    go_enter Tryd.func9, Tryd.ntmps9
    go_wp2_with fail
    refine HI.out.mono ?_
    rintro e w1 ⟨rfl, rfl⟩
    go_wp2_with fail
    go_ret3
    exact ⟨rfl, Below.refl _ _⟩
  | some i =>
    rw [hf, show ixV (some i) = (i : Int) from rfl] at HI
    obtain ⟨x, y, hxy, hxi, _⟩ := firstIx_some hf
    have hil : i < l.length := by rw [hxy, ← hxi]; simp
    have R0 : tagT l tgB = if i ≠ 0 ∧ (l.take i).all tgB = true then some (l.take i, i + 1) else none := by unfold tagT; rw [hf]
    have htl : (l.take i).length = i := by rw [List.length_take]; omega
    have hcv := fun (W : World) (cc : Nat) (hw : Bys W W.heap.size P (l.take i)) => conv_bys (P := Tryd.prog) hw cc Tryd.underlying22 Tryd.underlying5 Tryd.underlying9
    rw [htl] at hcv
    have HCV := Lib.hid hcv
    have HU := Lib.hid (h.upto i)
    rw [R0]
    clear hf hxy hxi hcv R0 h hP
    have hic : i ≤ cap := by omega
    have hln : i < l.length := hil
    by_cases h0 : i = 0
    · subst h0
      rw [if_neg (by simp), tagV_none]
      clear hil hln htl
      generalize l.length = n at *
      go_enter Tryd.func9, Tryd.ntmps9
      go_wp2_with fail
      refine HI.out.mono ?_
      rintro e w1 ⟨rfl, rfl⟩
      go_wp2_with fail
      go_ret3
      exact ⟨rfl, Below.refl _ _⟩
    · have hne : (l.take i).isEmpty = false := by
        rw [List.isEmpty_eq_false_iff]
        intro e
        rw [e] at htl
        simp at htl
        omega
      have HAL := Lib.hid (fun W => all_any 21 tagB (ofL (l.take i)) W (by show (List.toArray _).size ≤ _; rw [List.size_toArray, htl]; unfold maxLen; omega) (fun _ _ => rfl) (fun c W h1 h2 => tag_any c W h1 h2))
      have hal : allS tagB (ofL (l.take i)) = (l.take i).all tgB := by
        unfold allS
        rw [ofL_data, hne]
        rfl
      rw [hal] at HAL
      have hi1 : (1 : Int) ≤ i := by omega
      clear hal hne
      cases hb : (l.take i).all tgB with
      | false =>
        rw [hb] at HAL
        rw [if_neg (by simp), tagV_none]
        generalize l.take i = m at *
        clear hb htl
        generalize l.length = n at *
        go_enter Tryd.func9, Tryd.ntmps9
        go_wp2_with fail
        refine HI.out.mono ?_
        rintro e w1 ⟨rfl, rfl⟩
        go_wp2_with fail
        rw [HCV.out _ _ HU.out]
        simp only [Result.andThen]
        rw [Oper.upon_value]
        go_wp2_with fail
        refine (HAL.out _).mono ?_
        rintro e w2 ⟨rfl, hb2⟩
        have HB2 := Lib.hid hb2
        clear hb2
        go_wp2_with fail
        go_ret3
        exact ⟨rfl, HB2.out⟩
      | true =>
        rw [hb] at HAL
        rw [if_pos ⟨h0, rfl⟩, tagV_some]
        have HU2 := Lib.hid (fun W (hW : Below w.heap.size w W) => (HU.out.below hW).more hW.size)
        generalize l.take i = m at *
        clear hb htl
        generalize l.length = n at *
        go_enter Tryd.func9, Tryd.ntmps9
        go_wp2_with fail
        refine HI.out.mono ?_
        rintro e w1 ⟨rfl, rfl⟩
        go_wp2_with fail
        rw [HCV.out _ _ HU.out]
        simp only [Result.andThen]
        rw [Oper.upon_value]
        go_wp2_with fail
        refine (HAL.out _).mono ?_
        rintro e w2 ⟨rfl, hb2⟩
        have HB2 := Lib.hid hb2
        have HU3 := Lib.hid (HU2.out w2 hb2)
        clear hb2
        go_wp2_with fail
        rw [HCV.out _ _ HU3.out]
        simp only [Result.andThen]
        rw [Oper.upon_value]
        go_wp2_with fail
        go_ret3
        exact ⟨rfl, HB2.out⟩

set_option maxRecDepth 100000 in
set_option maxHeartbeats 800000 in
theorem rTokTag_any (P : Option Addr) (cap : Nat) (l : List UInt8) (w : World) (h : Bys w w.heap.size P l) (hl : l.length ≤ 1048576) (hcap : l.length ≤ cap) :
    Calls Tryd.prog 10 #[.slice P l.length cap] w fun e w' => e = .returned (tagV (tagT l tgB)) ∧ w = w' := by
  obtain ⟨n, hn⟩ : ∃ n, l.length = n := ⟨_, rfl⟩
  have HN := Lib.hid hn
  have HY := Lib.hid h
  rw [hn]
  have hn5 : n ≤ 1048576 := by omega
  have hnc : n ≤ cap := by omega
  clear hn h hl hcap
  go_enter Tryd.func10, Tryd.ntmps10
  go_wp2_with fail
  go_loop [5] (fun i => ∃ k : Nat, k ≤ n ∧ i = .int .i64 k ∧ (l.take k).all tgB = true) (fun i => n - (intOf i).toNat)
  case atStart => exact ⟨0, Nat.zero_le _, rfl, rfl⟩
  case round =>
    obtain ⟨k, hk, rfl, hall⟩ := hrel
    have HALL := Lib.hid hall
    clear hall
    by_cases hkn : k < n
    · have hkl : k < l.length := by have := HN.out; omega
      obtain ⟨p, o, rfl, hp, hc⟩ := HY.out (by omega)
      have hck := hc k hkl
      have HT := Lib.hid (rTag_any (l[k].toNat : Int) w (by omega) (by have := l[k].toNat_lt; omega))
      clear hc
      cases hb : tagB (l[k].toNat : Int) with
      | true =>
        rw [hb] at HT
        have HS := Lib.hid (take_all_yes (q := tgB) hkl HALL.out hb)
        clear hb
        generalize (l[k].toNat : Int) = x at *
        go_wp2_with fail
        refine HT.out.mono ?_
        rintro e w1 ⟨rfl, rfl⟩
        go_wp2_with fail
        go_round
        case rel => exact ⟨k + 1, by omega, by go_num, HS.out⟩
        case measure => simp [intOf]; omega
      | false =>
        rw [hb] at HT
        have hx : tgB l[k] = false := hb
        by_cases h32 : l[k] = 32
        · have R0 := tag_sp tg32 hkl HALL.out h32
          have hck2 : w.cell? ⟨p, o + k, none⟩ = some (.int .u8 32) := by rw [hck, h32]; rfl
          rw [show (l[k].toNat : Int) = 32 from by rw [h32]; rfl] at HT
          clear hck hb hx h32
          by_cases h0 : k = 0
          · rw [if_neg (by simp [h0])] at R0
            have R := Lib.hid R0
            have hk0 : ((k : Int) == 0) = true := by rw [beq_iff_eq]; omega
            clear R0 h0
            go_wp2_with fail
            refine HT.out.mono ?_
            rintro e w1 ⟨rfl, rfl⟩
            go_wp2_with fail
            go_ret3
            rw [R.out]
            exact ⟨rfl, rfl⟩
          · rw [if_pos h0] at R0
            have R := Lib.hid R0
            have htl : (l.take k).length = k := by rw [List.length_take]; omega
            have hcv := conv_bys (P := Tryd.prog) (HY.out.upto k) cap Tryd.underlying22 Tryd.underlying5 Tryd.underlying9
            rw [htl] at hcv
            have HCV := Lib.hid hcv
            have hkc : k ≤ cap := by omega
            have hk0 : ((k : Int) == 0) = false := by rw [beq_eq_false_iff_ne]; omega
            have hkn2 : ((k : Int) == n) = false := by rw [beq_eq_false_iff_ne]; omega
            clear R0 h0 hcv htl
            go_wp2_with fail
            refine HT.out.mono ?_
            rintro e w1 ⟨rfl, rfl⟩
            go_wp2_with fail
            rw [HCV.out]
            simp only [Result.andThen]
            rw [Oper.upon_value]
            go_wp2_with fail
            go_ret3
            rw [R.out]
            exact ⟨rfl, rfl⟩
        · have R := Lib.hid (tag_bad tg32 hkl HALL.out hx h32)
          have b1 : ((l[k].toNat : Int) != 32) = true := by
            have := u8_ne (v := 32) (by decide) h32
            simpa [bne] using this
          have hkn2 : ((k : Int) == n) = false := by rw [beq_eq_false_iff_ne]; omega
          clear hb hx h32
          generalize (l[k].toNat : Int) = x at *
          by_cases h0 : k = 0
          · have hk0 : ((k : Int) == 0) = true := by rw [beq_iff_eq]; omega
            clear h0
            go_wp2_with fail
            refine HT.out.mono ?_
            rintro e w1 ⟨rfl, rfl⟩
            go_wp2_with fail
            go_ret3
            rw [R.out]
            exact ⟨rfl, rfl⟩
          · have hk0 : ((k : Int) == 0) = false := by rw [beq_eq_false_iff_ne]; omega
            clear h0
            go_wp2_with fail
            refine HT.out.mono ?_
            rintro e w1 ⟨rfl, rfl⟩
            go_wp2_with fail
            go_ret3
            rw [R.out]
            exact ⟨rfl, rfl⟩
    · obtain rfl : k = n := by omega
      have R := Lib.hid (tag_end tg32 (show l.all tgB = true from by have := HALL.out; rw [List.take_of_length_le (by have := HN.out; omega)] at this; exact this))
      by_cases h0 : k = 0
      · have hk0 : ((k : Int) == 0) = true := by rw [beq_iff_eq]; omega
        clear h0
        go_wp2_with fail
        go_ret3
        rw [R.out]
        exact ⟨rfl, rfl⟩
      · have hk0 : ((k : Int) == 0) = false := by rw [beq_eq_false_iff_ne]; omega
        clear h0
        go_wp2_with fail
        go_ret3
        rw [R.out]
        exact ⟨rfl, rfl⟩
end Go.Proofs.YtkifhgnoadmfkaaDoor
