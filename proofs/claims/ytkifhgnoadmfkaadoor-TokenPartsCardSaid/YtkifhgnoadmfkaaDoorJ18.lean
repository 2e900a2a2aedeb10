/- Plain laws on tokens: a command with a space between two others. · Plain laws on tokens: the bytes of the tokens of a command, joined, are the command. -/
import Derived.Test.YtkifhgnoadmfkaaDoorJ5
set_option linter.unusedVariables false
set_option linter.unusedSimpArgs false
namespace Go.Proofs.YtkifhgnoadmfkaaDoor
open Go.Lib

/-- ts are the tokens of l from k on. -/
inductive Toks (l : List UInt8) : Nat → List Tok → Prop
  | fin (k : Nat) (t : Tok) (j : Nat) (h : nextT l k = some (t, j)) (h0 : t.kind = 0) : Toks l k [t]
  | step (k : Nat) (t : Tok) (j : Nat) (r : List Tok) (h : nextT l k = some (t, j)) (h0 : t.kind ≠ 0) (hr : Toks l j r) : Toks l k (t :: r)

theorem Toks.of (l : List UInt8) : ∀ (m k : Nat) (ts : List Tok), toksT l m k = .inl ts → Toks l k ts
  | 0, k, ts, h => by cases h
  | m + 1, k, ts, h => by
    unfold toksT at h
    cases hn : nextT l k with
    | none => rw [hn] at h; cases h
    | some x =>
      obtain ⟨t, j⟩ := x
      rw [hn] at h
      dsimp only at h
      by_cases h0 : t.kind = 0
      · rw [if_pos h0] at h
        injection h with h
        subst h
        exact .fin k t j hn h0
      · rw [if_neg h0] at h
        cases hm : toksT l m j with
        | inl r =>
          rw [hm] at h
          injection h with h
          subst h
          exact .step k t j r hn h0 (Toks.of l m j r hm)
        | inr e => rw [hm] at h; cases h
theorem Toks.run {l : List UInt8} {k : Nat} {ts : List Tok} (h : Toks l k ts) : k ≤ l.length → ∀ m, l.length < k + m → toksT l m k = .inl ts := by
  induction h with
  | fin k t j h h0 =>
    intro hk m hm
    obtain ⟨m, rfl⟩ : ∃ m', m = m' + 1 := ⟨m - 1, by omega⟩
    unfold toksT
    rw [h]
    simp only [h0, if_true]
  | step k t j r h h0 hr ih =>
    intro hk m hm
    obtain ⟨m, rfl⟩ : ∃ m', m = m' + 1 := ⟨m - 1, by omega⟩
    have hs := (nextT_some hk h).2
    rcases hs with hs | hs
    · exact absurd hs.1 h0
    · unfold toksT
      rw [h]
      simp only [h0, if_false]
      rw [ih hs.2.2.2.1 m (by omega)]
theorem tokens_iff {l : List UInt8} {ts : List Tok} : tokens l = .inl ts ↔ Toks l 0 ts :=
  ⟨fun h => Toks.of l _ _ _ h, fun h => h.run (Nat.zero_le _) _ (by omega)⟩

/-- What is read stays, whatever follows. -/
theorem sq_app (r : List UInt8) : ∀ (n : Nat) (l : List UInt8), l.length ≤ n → ∀ x, sq l = some x → sq (l ++ r) = some x
  | _, [], _, x, h => by cases h
  | 0, c :: l, hn, x, h => by simp at hn
  | n + 1, c :: l, hn, x, h => by
    have hl : l.length ≤ n := by simpa using hn
    unfold sq at h
    rw [List.cons_append]
    unfold sq
    split at h
    · rename_i h1; rw [if_pos h1]; exact h
    · rename_i h1
      rw [if_neg h1]
      split at h
      · rename_i h2
        rw [if_pos h2]
        split at h
        · cases h
        · rename_i d l'
          simp only [List.cons_append]
          split at h
          · rename_i h3
            rw [if_pos h3]
            unfold consQ at h ⊢
            rw [Option.map_eq_some_iff] at h
            obtain ⟨y, hy, rfl⟩ := h
            rw [sq_app r n l' (by simp at hl; omega) y hy]
            rfl
          · cases h
      · rename_i h2
        rw [if_neg h2]
        split at h
        · rename_i h3
          rw [if_pos h3]
          unfold consQ at h ⊢
          rw [Option.map_eq_some_iff] at h
          obtain ⟨y, hy, rfl⟩ := h
          rw [sq_app r n l hl y hy]
          rfl
        · cases h
theorem scanQ_app {l r : List UInt8} {k : Nat} {x : List UInt8 × Nat} (h : scanQ l k = some x) : scanQ (l ++ r) k = some x := by
  unfold scanQ at h ⊢
  split at h
  · rename_i hc
    simp only [Int.toNat_natCast] at hc h ⊢
    rw [Option.map_eq_some_iff] at h
    obtain ⟨y, hy, rfl⟩ := h
    have hk : k < l.length := by omega
    rw [if_pos ⟨hc.1, by rw [List.length_append]; omega, by rw [List.getElem?_append_left hk]; exact hc.2.2⟩, List.drop_append_of_le_length (by omega), sq_app r _ _ (Nat.le_refl _) y hy]
    rfl
  · cases h
theorem firstIx_app {c : UInt8} {r : List UInt8} : ∀ {l : List UInt8} {i : Nat}, firstIx c l = some i → firstIx c (l ++ r) = some i
  | [], _, h => by cases h
  | x :: l, i, h => by
    rw [List.cons_append]
    unfold firstIx at h ⊢
    split at h
    · rename_i h1; rw [if_pos h1]; exact h
    · rename_i h1
      rw [if_neg h1]
      rw [Option.map_eq_some_iff] at h
      obtain ⟨y, hy, rfl⟩ := h
      rw [firstIx_app hy]; rfl
theorem get_app {l r : List UInt8} {i : Nat} {v : UInt8} (h : l[i]? = some v) : (l ++ r)[i]? = some v := by
  obtain ⟨hi, _⟩ := List.getElem?_eq_some_iff.1 h
  rw [List.getElem?_append_left hi]; exact h
theorem scanL_app {l r : List UInt8} {k : Nat} {x : List UInt8 × Nat} (h : scanL l k = some x) : scanL (l ++ r) k = some x := by
  unfold scanL at h ⊢
  split at h
  · rename_i hc
    simp only [Int.toNat_natCast] at hc h ⊢
    have hk : k < l.length := by omega
    rw [if_pos ⟨hc.1, by rw [List.length_append]; omega, by rw [List.getElem?_append_left hk]; exact hc.2.2⟩, List.drop_append_of_le_length (show k + 1 ≤ l.length by omega)]
    split at h
    · cases h
    · rename_i i hi
      rw [firstIx_app hi]
      obtain ⟨u, v, e, hu, _⟩ := firstIx_some hi
      have hle : i ≤ (l.drop (k + 1)).length := by rw [e, ← hu]; simp
      dsimp only
      rw [List.take_append_of_le_length hle]
      split at h
      · cases h
      · rename_i n hn
        split at h
        · rename_i h4
          rw [if_pos ⟨h4.1, get_app h4.2.1, get_app h4.2.2.1, by rw [List.length_append]; omega⟩, List.drop_append_of_le_length (by omega), List.take_append_of_le_length (by rw [List.length_drop]; omega)]
          exact h
        · cases h
  · cases h
theorem wd_app (l r : List UInt8) : (l ++ 32 :: r).takeWhile wordB = l.takeWhile wordB := by
  induction l with
  | nil => rfl
  | cons c l ih =>
    rw [List.cons_append]
    simp only [List.takeWhile]
    rw [ih]
/-- A token stays where a space follows. -/
theorem nextT_app {l r : List UInt8} {k : Nat} {t : Tok} {j : Nat} (hk : k < l.length) (h : nextT l k = some (t, j)) : nextT (l ++ 32 :: r) k = some (t, j) := by
  have hk2 : k < (l ++ 32 :: r).length := by rw [List.length_append]; omega
  rw [nextT_at hk] at h
  rw [nextT_at hk2, List.getElem_append_left hk, List.drop_append_of_le_length (Nat.le_of_lt hk), wd_app]
  split at h
  · rename_i h1; rw [if_pos h1]; exact h
  rename_i h1; rw [if_neg h1]
  split at h
  · rename_i h1; rw [if_pos h1]; exact h
  rename_i h1; rw [if_neg h1]
  split at h
  · rename_i h1; rw [if_pos h1]; exact h
  rename_i h1; rw [if_neg h1]
  split at h
  · rename_i h1; rw [if_pos h1]
    rw [Option.map_eq_some_iff] at h
    obtain ⟨x, hx, e⟩ := h
    rw [scanQ_app hx]
    exact congrArg some e
  rename_i h1; rw [if_neg h1]
  split at h
  · rename_i h1; rw [if_pos h1]
    rw [Option.map_eq_some_iff] at h
    obtain ⟨x, hx, e⟩ := h
    rw [scanL_app hx]
    exact congrArg some e
  rename_i h1; rw [if_neg h1]
  exact h

/-- Behind others everything is shifted. -/
def shT (n : Nat) (t : Tok) : Tok := ⟨t.kind, t.text, n + t.at0⟩
theorem scanQ_sh (p l : List UInt8) (k : Nat) : scanQ (p ++ l) ((p.length + k : Nat) : Int) = (scanQ l k).map fun x => (x.1, p.length + x.2) := by
  unfold scanQ
  simp only [Int.toNat_natCast]
  by_cases hc : 0 ≤ (k : Int) ∧ (k : Int) < l.length ∧ l[k]? = some 34
  · rw [if_pos hc, if_pos ⟨by omega, by rw [List.length_append]; omega, by rw [List.getElem?_append_right (by omega), show p.length + k - p.length = k by omega]; exact hc.2.2⟩,
      show p.length + k + 1 = p.length + (k + 1) by omega, List.drop_append]
    simp only [Nat.sub_self, List.drop_length, List.nil_append, Nat.add_sub_cancel_left, Option.map_map]
    rw [List.drop_of_length_le (by omega), List.nil_append]
    congr 1
    funext x
    simp only [Function.comp, Nat.add_assoc]
  · rw [if_neg hc, if_neg]
    · rfl
    · rintro ⟨h1, h2, h3⟩
      apply hc
      rw [List.getElem?_append_right (by omega), show p.length + k - p.length = k by omega] at h3
      rw [List.length_append] at h2
      exact ⟨by omega, by omega, h3⟩
theorem scanL_sh (p l : List UInt8) (k : Nat) : scanL (p ++ l) ((p.length + k : Nat) : Int) = (scanL l k).map fun x => (x.1, p.length + x.2) := by
  unfold scanL
  simp only [Int.toNat_natCast]
  have hd : ∀ n, (p ++ l).drop (p.length + n) = l.drop n := fun n => by
    rw [List.drop_append, List.drop_of_length_le (by omega), List.nil_append, Nat.add_sub_cancel_left]
  have hg : ∀ n, (p ++ l)[p.length + n]? = l[n]? := fun n => by
    rw [List.getElem?_append_right (by omega), Nat.add_sub_cancel_left]
  by_cases hc : 0 ≤ (k : Int) ∧ (k : Int) < l.length ∧ l[k]? = some 123
  · rw [if_pos hc, if_pos ⟨by omega, by rw [List.length_append]; omega, by rw [hg]; exact hc.2.2⟩, show p.length + k + 1 = p.length + (k + 1) by omega, hd]
    cases firstIx 125 (l.drop (k + 1)) with
    | none => rfl
    | some i =>
      dsimp only
      cases numB ((l.drop (k + 1)).take i) with
      | none => rfl
      | some n =>
        dsimp only
        rw [show p.length + (k + 1) + i + 1 = p.length + (k + 1 + i + 1) by omega, show p.length + (k + 1) + i + 2 = p.length + (k + 1 + i + 2) by omega, show p.length + (k + 1) + i + 3 = p.length + (k + 1 + i + 3) by omega, hg, hg, hd, List.length_append]
        by_cases h4 : n ≤ 65536 ∧ l[k + 1 + i + 1]? = some 13 ∧ l[k + 1 + i + 2]? = some 10 ∧ k + 1 + i + 3 + n ≤ l.length
        · rw [if_pos h4, if_pos ⟨h4.1, h4.2.1, h4.2.2.1, by omega⟩]
          simp only [Option.map_some, Nat.add_assoc]
        · rw [if_neg h4, if_neg (by rintro ⟨a1, a2, a3, a4⟩; exact h4 ⟨a1, a2, a3, by omega⟩)]
          rfl
  · rw [if_neg hc, if_neg]
    · rfl
    · rintro ⟨h1, h2, h3⟩
      apply hc
      rw [hg] at h3
      rw [List.length_append] at h2
      exact ⟨by omega, by omega, h3⟩
theorem nextT_sh (p l : List UInt8) (k : Nat) (hk : k ≤ l.length) : nextT (p ++ l) (p.length + k) = (nextT l k).map fun x => (shT p.length x.1, p.length + x.2) := by
  rcases Nat.lt_or_ge k l.length with hk2 | hk2
  · have hp : p.length + k < (p ++ l).length := by rw [List.length_append]; omega
    have hd : (p ++ l).drop (p.length + k) = l.drop k := by
      rw [List.drop_append, List.drop_of_length_le (by omega), List.nil_append, Nat.add_sub_cancel_left]
    have hg : (p ++ l)[p.length + k] = l[k] := by
      rw [List.getElem_append_right (by omega)]
      simp only [Nat.add_sub_cancel_left]
    rw [nextT_at hk2, nextT_at hp, hg, hd, scanQ_sh, scanL_sh]
    by_cases h1 : l[k] = 32
    · rw [if_pos h1, if_pos h1]; rfl
    rw [if_neg h1, if_neg h1]
    by_cases h2 : l[k] = 40
    · rw [if_pos h2, if_pos h2]; rfl
    rw [if_neg h2, if_neg h2]
    by_cases h3 : l[k] = 41
    · rw [if_pos h3, if_pos h3]; rfl
    rw [if_neg h3, if_neg h3]
    by_cases h4 : l[k] = 34
    · rw [if_pos h4, if_pos h4, Option.map_map, Option.map_map]; rfl
    rw [if_neg h4, if_neg h4]
    by_cases h5 : l[k] = 123
    · rw [if_pos h5, if_pos h5, Option.map_map, Option.map_map]; rfl
    rw [if_neg h5, if_neg h5]
    by_cases h6 : wordB l[k] = true
    · rw [if_pos h6, if_pos h6]
      simp only [Option.map_some, shT, Nat.add_assoc]
    · rw [if_neg h6, if_neg h6]; rfl
  · obtain rfl : k = l.length := by omega
    rw [← List.length_append, nextT_end, nextT_end]
    simp only [Option.map_some, shT, List.length_append]
theorem Toks.shift {l : List UInt8} {k : Nat} {ts : List Tok} (h : Toks l k ts) (p : List UInt8) : k ≤ l.length → Toks (p ++ l) (p.length + k) (ts.map (shT p.length)) := by
  induction h with
  | fin k t j h h0 =>
    intro hk
    exact .fin _ _ _ (by rw [nextT_sh p l k hk, h]; rfl) h0
  | step k t j r h h0 hr ih =>
    intro hk
    have hs := (nextT_some hk h).2
    rcases hs with hs | hs
    · exact absurd hs.1 h0
    · exact .step _ _ _ _ (by rw [nextT_sh p l k hk, h]; rfl) h0 (ih hs.2.2.2.1)
theorem Toks.parts {a b : List UInt8} {k : Nat} {ts ys : List Tok} (h : Toks a k ts) (hb : Toks b 0 ys) : k ≤ a.length →
    Toks (a ++ 32 :: b) k (ts.dropLast ++ (⟨1, [], a.length⟩ :: ys.map (shT (a.length + 1)))) := by
  induction h with
  | fin k t j h h0 =>
    intro hk
    have hs := (nextT_some hk h).2
    rcases hs with hs | hs
    · obtain rfl : k = a.length := hs.2.1
      have hl : a.length < (a ++ 32 :: b).length := by rw [List.length_append, List.length_cons]; omega
      have hn : nextT (a ++ 32 :: b) a.length = some (⟨1, [], a.length⟩, a.length + 1) := by
        rw [nextT_at hl, List.getElem_append_right (Nat.le_refl _)]
        simp only [Nat.sub_self, List.getElem_cons_zero, if_true]
      have h2 := hb.shift (a ++ [32]) (Nat.zero_le _)
      rw [List.append_assoc, List.length_append, List.length_singleton, Nat.add_zero] at h2
      exact .step _ _ _ _ hn (by simp) h2
    · exact absurd h0 (by omega)
  | step k t j r h h0 hr ih =>
    intro hk
    have hs := (nextT_some hk h).2
    rcases hs with hs | hs
    · exact absurd hs.1 h0
    · have hne : r ≠ [] := by intro e; subst e; cases hr
      rw [List.dropLast_cons_of_ne_nil hne]
      exact .step _ _ _ _ (nextT_app (by omega) h) h0 (ih hs.2.2.2.1)
theorem Toks.ne {l : List UInt8} {k : Nat} {ts : List Tok} (h : Toks l k ts) : ts ≠ [] := by cases h <;> simp
end Go.Proofs.YtkifhgnoadmfkaaDoor
namespace Go.Proofs.YtkifhgnoadmfkaaDoor
open Go.Lib

/-- The bytes of a token. -/
def bytT (t : Tok) : List UInt8 :=
  if t.kind = 1 then [32] else if t.kind = 2 then [40] else if t.kind = 3 then [41] else if t.kind = 4 then t.text else if t.kind = 5 then (quoB t.text).getD [] else if t.kind = 6 then litB t.text else []
def joinT (ts : List Tok) : List UInt8 := ts.flatMap bytT
theorem sq_back : ∀ (n : Nat) (l : List UInt8), l.length ≤ n → ∀ x, sq l = some x → x.1.all (fun b => textB b.toNat) = true ∧ l = x.1.flatMap qesc ++ 34 :: l.drop x.2
  | _, [], _, x, h => by cases h
  | 0, c :: l, hn, x, h => by simp at hn
  | n + 1, c :: l, hn, x, h => by
    have hl : l.length ≤ n := by simpa using hn
    unfold sq at h
    split at h
    · rename_i h1
      injection h with h
      subst h
      exact ⟨rfl, by rw [h1]; rfl⟩
    · rename_i h1
      split at h
      · rename_i h2
        split at h
        · cases h
        · rename_i d l'
          split at h
          · rename_i h3
            unfold consQ at h
            rw [Option.map_eq_some_iff] at h
            obtain ⟨y, hy, rfl⟩ := h
            obtain ⟨i1, i2⟩ := sq_back n l' (by simp at hl; omega) y hy
            refine ⟨?_, ?_⟩
            · rw [List.all_cons, i1, Bool.and_true]
              rcases h3 with rfl | rfl <;> decide
            · rw [h2]
              have e : qesc d = [92, d] := by unfold qesc; rw [if_pos (by rcases h3 with rfl | rfl <;> decide)]
              rw [List.flatMap_cons, e, show y.2 + 2 = y.2 + 1 + 1 from rfl, List.drop_succ_cons, List.drop_succ_cons]
              conv => lhs; rw [i2]
              rfl
          · cases h
      · rename_i h2
        split at h
        · rename_i h3
          unfold consQ at h
          rw [Option.map_eq_some_iff] at h
          obtain ⟨y, hy, rfl⟩ := h
          obtain ⟨i1, i2⟩ := sq_back n l hl y hy
          refine ⟨?_, ?_⟩
          · rw [List.all_cons, i1, Bool.and_true]; exact h3
          · have e : qesc c = [c] := by
              unfold qesc
              rw [if_neg]
              rintro (q | q)
              · exact h1 (UInt8.toNat_inj.1 q)
              · exact h2 (UInt8.toNat_inj.1 q)
            rw [List.flatMap_cons, e, List.drop_succ_cons]
            conv => lhs; rw [i2]
            rfl
        · cases h
theorem scanQ_back {l : List UInt8} {k : Nat} {x : List UInt8 × Nat} (h : scanQ l k = some x) : l.drop k = (quoB x.1).getD [] ++ l.drop x.2 := by
  unfold scanQ at h
  split at h
  · rename_i hc
    simp only [Int.toNat_natCast] at hc h
    rw [Option.map_eq_some_iff] at h
    obtain ⟨y, hy, rfl⟩ := h
    obtain ⟨i1, i2⟩ := sq_back _ _ (Nat.le_refl _) y hy
    have hk : k < l.length := by omega
    have e : l[k] = 34 := by
      have := hc.2.2
      rw [List.getElem?_eq_getElem hk] at this
      injection this
    unfold quoB
    have h8 : l.drop (k + 1 + y.2) = (l.drop (k + 1)).drop y.2 := by rw [List.drop_drop]
    rw [if_pos i1, Option.getD_some, List.drop_eq_getElem_cons hk, e, h8]
    conv => lhs; rw [i2]
    simp
  · cases h
theorem scanL_back {l : List UInt8} {k : Nat} {x : List UInt8 × Nat} (h : scanL l k = some x) : l.drop k = litB x.1 ++ l.drop x.2 := by
  unfold scanL at h
  split at h
  · rename_i hc
    simp only [Int.toNat_natCast] at hc h
    have hk : k < l.length := by omega
    have e : l[k] = 123 := by
      have := hc.2.2
      rw [List.getElem?_eq_getElem hk] at this
      injection this
    split at h
    · cases h
    · rename_i i hi
      obtain ⟨u, v, e1, hu, _⟩ := firstIx_some hi
      split at h
      · cases h
      · rename_i n hn
        split at h
        · rename_i h4
          injection h with h
          subst h
          obtain ⟨_, hd⟩ := numB_some hn
          have htk : (l.drop (k + 1)).take i = u := by rw [e1, ← hu]; simp
          rw [htk] at hd
          obtain ⟨g1, g2⟩ := List.getElem?_eq_some_iff.1 h4.2.1
          obtain ⟨g3, g4⟩ := List.getElem?_eq_some_iff.1 h4.2.2.1
          have hv : v = 13 :: 10 :: l.drop (k + 1 + i + 3) := by
            have : v = l.drop (k + 1 + i + 1) := by
              rw [show k + 1 + i + 1 = k + 1 + (i + 1) by omega, ← List.drop_drop, e1, show u ++ 125 :: v = (u ++ [125]) ++ v by simp, List.drop_left' (by rw [List.length_append, hu]; rfl)]
            rw [this, List.drop_eq_getElem_cons g1, g2, show k + 1 + i + 1 + 1 = k + 1 + i + 2 by omega, List.drop_eq_getElem_cons g3, g4]
          have hlen : ((l.drop (k + 1 + i + 3)).take n).length = n := by rw [List.length_take, List.length_drop]; omega
          unfold litB litH
          dsimp only
          rw [hlen, List.drop_eq_getElem_cons hk, e, e1, hd, hv]
          simp only [List.cons_append, List.append_assoc, List.nil_append, List.cons.injEq, true_and]
          rw [List.append_cancel_left_eq]
          simp only [List.cons.injEq, true_and]
          have h8 : l.drop (k + 1 + i + 3 + n) = (l.drop (k + 1 + i + 3)).drop n := by rw [List.drop_drop]
          rw [h8, List.take_append_drop]
        · cases h
  · cases h
theorem nextT_back {l : List UInt8} {k : Nat} {t : Tok} {j : Nat} (hk : k < l.length) (h : nextT l k = some (t, j)) : l.drop k = bytT t ++ l.drop j := by
  rw [nextT_at hk] at h
  have hs : ∀ (n : Nat) (v : UInt8), l[k] = v → bytT ⟨n, [], k⟩ = [v] → some ((⟨n, [], k⟩ : Tok), k + 1) = some (t, j) → l.drop k = bytT t ++ l.drop j := by
    intro n v h1 h2 e
    injection e with e
    injection e with e1 e2
    subst e1 e2
    rw [h2, List.drop_eq_getElem_cons hk, h1]; rfl
  split at h
  · rename_i h1; exact hs 1 32 h1 rfl h
  split at h
  · rename_i h1; exact hs 2 40 h1 rfl h
  split at h
  · rename_i h1; exact hs 3 41 h1 rfl h
  split at h
  · rw [Option.map_eq_some_iff] at h
    obtain ⟨x, hx, e⟩ := h
    injection e with e1 e2
    subst e1 e2
    exact scanQ_back hx
  split at h
  · rw [Option.map_eq_some_iff] at h
    obtain ⟨x, hx, e⟩ := h
    injection e with e1 e2
    subst e1 e2
    exact scanL_back hx
  split at h
  · injection h with e
    injection e with e1 e2
    subst e1 e2
    show l.drop k = (l.drop k).takeWhile wordB ++ l.drop (k + ((l.drop k).takeWhile wordB).length)
    rw [← List.drop_drop]
    conv => lhs; rw [← List.take_append_drop ((l.drop k).takeWhile wordB).length (l.drop k)]
    congr 1
    exact (List.prefix_iff_eq_take.1 (List.takeWhile_prefix wordB)).symm
  · cases h
theorem Toks.join {l : List UInt8} {k : Nat} {ts : List Tok} (h : Toks l k ts) : k ≤ l.length → joinT ts = l.drop k := by
  induction h with
  | fin k t j h h0 =>
    intro hk
    have hs := (nextT_some hk h).2
    rcases hs with hs | hs
    · obtain rfl : k = l.length := hs.2.1
      rw [List.drop_length]
      simp [joinT, bytT, h0]
    · exact absurd h0 (by omega)
  | step k t j r h h0 hr ih =>
    intro hk
    have hs := (nextT_some hk h).2
    rcases hs with hs | hs
    · exact absurd hs.1 h0
    · rw [nextT_back (by omega) h, ← ih hs.2.2.2.1]
      simp [joinT]
theorem tokens_join {l : List UInt8} {ts : List Tok} (h : tokens l = .inl ts) : joinT ts = l := by
  rw [(tokens_iff.1 h).join (Nat.zero_le _)]; rfl
end Go.Proofs.YtkifhgnoadmfkaaDoor
