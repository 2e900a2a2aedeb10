/- Forms of sequence sets: plain laws; number, form, the reference's form; strings.Cut. Print and Parse of sequence sets, and the reference's Print. The example of chapter 2; few. SeqsetInverse and SeqsetNumbers: the laws' own walks. -/
import Derived.Test.YtpcffnhbodjpbaaGreatDoorI
import Derived.Test.YtpcffnhbodjpbaaGreatDoorFlagSpec
import Derived.Test.YtpcffnhbodjpbaaGreatDoorBufO
import Derived.Test.YtpcffnhbodjpbaaGreatDoorRgA
import Derived.Lib.CutLaws
import Derived.Lib.IndexMore
import Derived.Test.YtpcffnhbodjpbaaGreatDoorOfW
import Derived.Test.YtpcffnhbodjpbaaGreatDoorResW
import Derived.Test.YtpcffnhbodjpbaaGreatDoorOrd
import Derived.Test.YtpcffnhbodjpbaaGreatDoorRgE
import Derived.Test.YtpcffnhbodjpbaaGreatDoorEqW
import Derived.Test.YtpcffnhbodjpbaaGreatDoorRefP
import Derived.Test.YtpcffnhbodjpbaaGreatDoorRefX
set_option linter.unusedVariables false
set_option linter.unusedSimpArgs false
namespace Go.Proofs.YtpcffnhbodjpbaaGreatDoor
open Go Go.RowKit Go.Lib

/-- The variable that strings.Index reads. -/
structure StdM (w : World) : Prop where
  mx : ∃ m, w.cell? ⟨0, 0, none⟩ = some (.int .i64 m)
theorem StdM.below {w w' : World} (h : StdM w) (hb : Below w.heap.size w w') : StdM w' := by
  obtain ⟨m, h⟩ := h.mx
  exact ⟨m, cell_stays h hb⟩

def formL (n : Nat) : List UInt8 := if n = 0 then [42] else decDigits n
def partL (r : Rng) : List UInt8 := formL r.lo ++ if r.lo = r.hi then [] else 58 :: formL r.hi
def joinC : List (List UInt8) → List UInt8
  | [] => []
  | [a] => a
  | a :: b :: r => a ++ 44 :: joinC (b :: r)
def numS (l : List UInt8) : Option Nat := if l = [42] then some 0 else (numB l).bind fun n => if n = 0 then none else some n
def PartIs (p : List UInt8) (r : Rng) : Prop := ∃ a b, ((p = a ++ 58 :: b ∧ (58 : UInt8) ∉ a) ∨ ((58 : UInt8) ∉ p ∧ p = a ∧ p = b)) ∧ numS a = some r.lo ∧ numS b = some r.hi
theorem dec_byte {n : Nat} {c : UInt8} (h : c ∈ decDigits n) : 48 ≤ c.toNat ∧ c.toNat ≤ 57 := by
  have h1 := (val_dec n).2
  rw [List.all_eq_true] at h1
  have h2 := h1 c h
  unfold digitB at h2
  simp only [Bool.and_eq_true, decide_eq_true_eq] at h2
  exact h2
theorem form_byte {n : Nat} {c : UInt8} (h : c ∈ formL n) : c = 42 ∨ (48 ≤ c.toNat ∧ c.toNat ≤ 57) := by
  unfold formL at h
  split at h
  · exact .inl (by simpa using h)
  · exact .inr (dec_byte h)
theorem form_free {n : Nat} {c : UInt8} (hc : c = 44 ∨ c = 58) : c ∉ formL n := fun h => by
  rcases form_byte h with e | ⟨h1, h2⟩
  · rcases hc with rfl | rfl <;> cases e
  · rcases hc with rfl | rfl
    · exact absurd h1 (by decide)
    · exact absurd h2 (by decide)
theorem form_len {n : Nat} (hn : n ≤ 4294967295) : (formL n).length ≤ 10 := by
  unfold formL
  split
  · simp
  · exact decDigits_len n hn
theorem numS_form {n : Nat} (hn : n ≤ 4294967295) : numS (formL n) = some n := by
  unfold numS formL
  by_cases h0 : n = 0
  · subst h0
    simp
  · rw [if_neg h0, if_neg, numB_dec n hn]
    · simp [h0]
    · intro e
      have : (42 : UInt8) ∈ decDigits n := by rw [e]; simp
      exact absurd (dec_byte this).1 (by decide)
theorem part_is {r : Rng} (h1 : r.lo ≤ 4294967295) (h2 : r.hi ≤ 4294967295) : PartIs (partL r) r := by
  refine ⟨formL r.lo, formL r.hi, ?_, numS_form h1, numS_form h2⟩
  unfold partL
  split
  · rename_i h
    rw [h, List.append_nil]
    exact .inr ⟨form_free (.inr rfl), rfl, rfl⟩
  · exact .inl ⟨rfl, form_free (.inr rfl)⟩
theorem part_free {r : Rng} : (44 : UInt8) ∉ partL r := by
  unfold partL
  rw [List.mem_append, not_or]
  refine ⟨form_free (.inl rfl), ?_⟩
  split
  · simp
  · rw [List.mem_cons, not_or]
    exact ⟨by decide, form_free (.inl rfl)⟩
theorem part_len {r : Rng} (h1 : r.lo ≤ 4294967295) (h2 : r.hi ≤ 4294967295) : (partL r).length ≤ 21 := by
  unfold partL
  have := form_len h1
  have := form_len h2
  rw [List.length_append]
  split
  · simp; omega
  · rw [List.length_cons]; omega
theorem joinC_split : ∀ (L : List (List UInt8)), L ≠ [] → (∀ p ∈ L, (44 : UInt8) ∉ p) → splitOn 44 (joinC L) = L
  | [], h, _ => absurd rfl h
  | [a], _, h => splitOn_last (h a (by simp))
  | a :: b :: r, _, h => by
    have ih := joinC_split (b :: r) (by simp) (fun p hp => h p (List.mem_cons_of_mem _ hp))
    show splitOn 44 (a ++ 44 :: joinC (b :: r)) = _
    rw [splitOn_hit (h a (by simp)), ih]
theorem joinC_eq : ∀ L : List (List UInt8), Lib.join L [44] = joinC L
  | [] => rfl
  | [a] => Lib.join_one a [44]
  | a :: b :: r => by
    have ih := joinC_eq (b :: r)
    unfold joinC
    rw [← ih]
    simp [Lib.join, List.intercalate, List.intersperse]
theorem joinC_len : ∀ (L : List (List UInt8)) (c : Nat), (∀ x ∈ L, x.length ≤ c) → (joinC L).length ≤ L.length * (c + 1)
  | [], _, _ => by simp [joinC]
  | [a], c, h => by
    have := h a (by simp)
    simp only [joinC, List.length_cons, List.length_nil]; omega
  | a :: b :: r, c, h => by
    have ih := joinC_len (b :: r) c (fun x hx => h x (List.mem_cons_of_mem _ hx))
    have := h a (by simp)
    unfold joinC
    rw [List.length_append, List.length_cons]
    rw [show (a :: b :: r).length = (b :: r).length + 1 from rfl, Nat.add_mul]
    omega
theorem joinC_snoc : ∀ (L : List (List UInt8)) (a : List UInt8), joinC (L ++ [a]) = if L = [] then a else joinC L ++ 44 :: a
  | [], a => rfl
  | [b], a => rfl
  | b :: c :: r, a => by
    have ih := joinC_snoc (c :: r) a
    rw [if_neg (by simp)] at ih ⊢
    show b ++ 44 :: joinC (c :: r ++ [a]) = (b ++ 44 :: joinC (c :: r)) ++ 44 :: a
    rw [ih]
    simp

theorem splitOn_lenC (c : UInt8) : ∀ l : List UInt8, (splitOn c l).length ≤ l.length + 1
  | [] => by simp [splitOn]
  | x :: l => by
    have ih := splitOn_lenC c l
    unfold splitOn
    split
    · simp only [List.length_cons]; omega
    · split
      · simp
      · rename_i h t e
        rw [e] at ih
        simp only [List.length_cons] at ih ⊢; omega
theorem splitOn_pieceC (c : UInt8) : ∀ (l : List UInt8), ∀ p ∈ splitOn c l, p.length ≤ l.length
  | [], p, hp => by simp [splitOn] at hp; subst hp; simp
  | x :: l, p, hp => by
    have ih := splitOn_pieceC c l
    unfold splitOn at hp
    split at hp
    · rcases List.mem_cons.1 hp with rfl | h
      · simp
      · exact Nat.le_succ_of_le (ih p h)
    · split at hp
      · obtain rfl := List.mem_singleton.1 hp; simp
      · rename_i h t e
        rcases List.mem_cons.1 hp with rfl | h2
        · have := ih h (by rw [e]; simp)
          simp only [List.length_cons]; omega
        · exact Nat.le_succ_of_le (ih p (by rw [e]; exact List.mem_cons_of_mem _ h2))
theorem cut_hit {a b : List UInt8} (h : (58 : UInt8) ∉ a) : Lib.cut (a ++ 58 :: b) [58] = (a, b, true) := by
  unfold Lib.cut
  rw [index_at h, if_pos (by omega)]
  simp
theorem cut_miss {p : List UInt8} (h : (58 : UInt8) ∉ p) : Lib.cut p [58] = (p, [], false) := by
  unfold Lib.cut
  rw [index_miss h, if_neg (by omega)]
theorem cut_any (s : ByteArray) (w : World) (hM : StdM w) (hs : s.size ≤ 1048576) : Calls Tryz.prog 28 #[.string s, .string ⟨#[58]⟩] w fun e w' => e = .returned (.tuple #[.string (ofL (Lib.cut s.data.toList [58]).1), .string (ofL (Lib.cut s.data.toList [58]).2.1), .bool (Lib.cut s.data.toList [58]).2.2]) ∧ ∃ n, w' = w.drewN n := by
  obtain ⟨m, hm⟩ := hM.mx
  exact Tryz.strings_Cut s ⟨#[58]⟩ m w (by omega) hm
theorem split_cm (s : ByteArray) (w : World) (hM : StdM w) (hs : s.size ≤ 1048576) :
    Calls Tryz.prog 27 #[.string s, .string ⟨#[44]⟩] w fun e w' => e = .returned (.slice (some ⟨w.heap.size, 0, none⟩) (splitOn 44 s.data.toList).length (splitOn 44 s.data.toList).length) ∧
      Blk w' w.heap.size 9 ((splitOn 44 s.data.toList).map fun x => Value.string (ofL x)).toArray ∧ Below w.heap.size w w' := by
  obtain ⟨m, hm⟩ := hM.mx
  refine (Tryz.strings_Split s ⟨#[44]⟩ m w (by omega) hm (by show 1 ≤ (1 : Nat); omega)).mono ?_
  rintro e w' ⟨rfl, rfl⟩
  rw [splitOn_count, splitB_one, List.map_map]
  exact ⟨rfl, Blk.made _ _ _, (Below.refl _ _).alloc (Nat.le_refl _) _⟩
theorem Buf.atS {w : World} {base n : Nat} {v : Value} {xs : List Value} (h : Buf w base 1 v n xs) (h0 : 0 < n) : ∃ g off cap, v = .slice (some ⟨g, off, none⟩) n cap ∧ base ≤ g ∧ g < w.heap.size ∧ n ≤ cap ∧ ∀ j u, xs[j]? = some u → w.cell? ⟨g, off + j, none⟩ = some u := by
  rcases h.2 with ⟨_, h2⟩ | ⟨g, off, cap, rfl, hg, hlt, hnc, hc, _⟩
  · omega
  · exact ⟨g, off, cap, rfl, hg, hlt, hnc, hc⟩

def stC (l : List (List UInt8)) : List Value := l.map fun x => Value.string (ofL x)
theorem stC_one (l : List (List UInt8)) : ∀ u ∈ stC l, u.oneCell' = true := by
  intro u hu
  obtain ⟨x, _, rfl⟩ := List.mem_map.1 hu
  rfl
theorem infoStrC : (Tryz.prog.info? 9).map (fun i => (i.zero, i.size, i.bytes)) = some (some (.string ByteArray.empty), 1, 16) := by kernel_rfl
/-- strings.Join with commas of a slice of the call's own. -/
theorem join_cm (v : Value) (L : List (List UInt8)) (w : World) (base : Nat) (h : Buf w base 1 v L.length (stC L)) (hl : (joinC L).length ≤ 1048576) (hL : L.length ≤ 1048576) :
    Calls Tryz.prog 26 #[v, .string ⟨#[44]⟩] w fun e w' => e = .returned (.string (ofL (joinC L))) ∧ Below w.heap.size w w' := by
  cases L with
  | nil =>
    obtain ⟨A, c, rfl, _⟩ := h.src (stC_one _)
    refine (Tryz.strings_Join_none A c ⟨#[44]⟩ w).mono ?_
    rintro e w' ⟨rfl, rfl⟩
    exact ⟨rfl, Below.refl _ _⟩
  | cons a r =>
    obtain ⟨g, off, cap, rfl, hg, hlt, hnc, hc⟩ := h.atS (by simp)
    have e1 : ((a :: r).map ofL).map (·.data.toList) = a :: r := by
      rw [List.map_map]
      conv => rhs; rw [← List.map_id (a :: r)]
      exact List.map_congr_left fun x _ => ofL_data x
    have hj := Tryz.strings_Join g off cap ((a :: r).map ofL) ⟨#[44]⟩ w (fun j x hx => hc j _ (by
        unfold stC
        rw [List.getElem?_map] at hx ⊢
        cases hq : (a :: r)[j]? with
        | none => rw [hq] at hx; cases hx
        | some y => rw [hq] at hx; injection hx with hx; subst hx; rfl)) hlt (by rw [List.length_map]; omega) (by rw [List.length_map]; exact hnc)
        (by rw [e1]; show (Lib.join (a :: r) [44]).length ≤ _; rw [joinC_eq]; omega)
    rw [e1, List.length_map] at hj
    rw [show (ByteArray.mk #[44]).data.toList = [44] from rfl, joinC_eq] at hj
    exact hj

set_option maxHeartbeats 1000000 in
theorem form_any (n : Nat) (w : World) (hn : n < 4294967296) (hS : Std w) :
    Calls Tryz.prog 25 #[.int .u32 n] w fun e w' => e = .returned (.string (ofL (formL n))) ∧ Below w.heap.size w w' := by
  unfold formL
  by_cases h0 : n = 0
  · subst h0
    rw [if_pos rfl]
    clear hS
    go_enter Tryz.func25, Tryz.ntmps25
    go_wp2_with fail
    go_ret
    exact ⟨rfl, Below.refl _ _⟩
  · rw [if_neg h0]
    have h0I : ((n : Int) == 0) = false := by simpa using h0
    have h0n : ¬ ((n : Int) = 0) := by omega
    have HD := Lib.hid (decimal_any n w hn hS)
    generalize ofL (decDigits n) = x at HD ⊢
    clear hS h0
    go_enter Tryz.func25, Tryz.ntmps25
    go_wp2_with fail
    refine HD.out.mono ?_
    rintro e w1 ⟨rfl, hb⟩
    have HB := Lib.hid hb
    clear hb
    go_wp2_with fail
    go_ret
    exact ⟨rfl, HB.out⟩
set_option maxHeartbeats 1000000 in
theorem rform_any (n : Nat) (w : World) (hn : n < 4294967296) :
    Calls Tryz.prog 30 #[.int .u32 n] w fun e w' => e = .returned (.string (ofL (formL n))) ∧ w = w' := by
  unfold formL
  by_cases h0 : n = 0
  · subst h0
    rw [if_pos rfl]
    go_enter Tryz.func30, Tryz.ntmps30
    go_wp2_with fail
    go_ret
    exact ⟨rfl, rfl⟩
  · rw [if_neg h0]
    have h0I : ((n : Int) == 0) = false := by simpa using h0
    have h0n : ¬ ((n : Int) = 0) := by omega
    have HD := Lib.hid (rDecimal_any n w hn)
    generalize ofL (decDigits n) = x at HD ⊢
    clear h0
    go_enter Tryz.func30, Tryz.ntmps30
    go_wp2_with fail
    refine HD.out.mono ?_
    rintro e w1 ⟨rfl, rfl⟩
    go_wp2_with fail
    go_ret
    exact ⟨rfl, rfl⟩
set_option maxHeartbeats 1000000 in
theorem snumber_ok (s : ByteArray) (n : Nat) (w : World) (hs : s.size ≤ 1048576) (hS : Std w) (h : numS s.data.toList = some n) :
    Calls Tryz.prog 29 #[.string s] w fun e w' => e = .returned (.tuple #[.int .u32 n, .bool true]) ∧ Below w.heap.size w w' := by
  unfold numS at h
  by_cases h42 : s.data.toList = [42]
  · rw [if_pos h42] at h
    injection h with h
    subst h
    obtain rfl : s = ⟨#[42]⟩ := ba_ext h42
    clear hS h42 hs
    go_enter Tryz.func29, Tryz.ntmps29
    go_wp2_with fail
    go_ret2
    exact ⟨rfl, Below.refl _ _⟩
  · rw [if_neg h42] at h
    have HN := Lib.hid (number_any s w hs hS)
    cases hb : numB s.data.toList with
    | none => rw [hb] at h; cases h
    | some m =>
      rw [hb] at h HN
      rw [numV_some] at HN
      have hm : ¬ (m = 0) := fun e => by simp [e] at h
      obtain rfl : m = n := by simpa [hm] using h
      have hmI : ¬ ((m : Int) = 0) := by omega
      have hmb : ((m : Int) != 0) = true := by simpa using hm
      have hne : (s.toList == [42]) = false := by
        rw [beq_eq_false_iff_ne, ByteArray.toList_eq]
        exact h42
      have hsp : ¬ (s = (⟨#[42]⟩ : ByteArray)) := by
        rintro rfl
        exact h42 rfl
      clear hS h42 hs h hb hm
      go_enter Tryz.func29, Tryz.ntmps29
      go_wp2_with fail
      refine HN.out.mono ?_
      rintro e w1 ⟨rfl, hb⟩
      have HB := Lib.hid hb
      clear hb
      go_wp2_with fail
      go_ret2
      exact ⟨rfl, HB.out⟩
end Go.Proofs.YtpcffnhbodjpbaaGreatDoor

namespace Go.Proofs.YtpcffnhbodjpbaaGreatDoor
open Go Go.RowKit Go.Shelf Go.Lib Go.Sort

def okR (l : List Rng) : Prop := ∀ r ∈ l, r.lo ≤ 4294967295 ∧ r.hi ≤ 4294967295
theorem one_str (a b : List UInt8) : ofL a ++ ((⟨#[58]⟩ : ByteArray) ++ ofL b) = ofL (a ++ 58 :: b) := ba_ext (by rw [ofL_data, ByteArray.data_append, Array.toList_append, ofL_data, ByteArray.data_append, Array.toList_append, ofL_data]; rfl)
theorem app_str (a b : List UInt8) : ofL a ++ ofL b = ofL (a ++ b) := ba_ext (by rw [ofL_data, ByteArray.data_append, Array.toList_append, ofL_data, ofL_data])
theorem push_str {base k : Nat} {v : Value} {L : List (List UInt8)} {W : World} (hk : L.length = k) (h : Buf W base 1 v k (stC L)) (x : List UInt8) (hb : base ≤ W.heap.size) (hl : k ≤ 1048576) :
    ∃ g o c w', (Builtin.append_ #[51, 51] 51 #[v, .slice (some ⟨W.heap.size, 0, none⟩) 1 1]).run Tryz.prog (W.alloc (.cells #[.string (ofL x)] 9)) = .ok (.slice (some ⟨g, o, none⟩) (k + 1) c) w' ∧ Buf w' base 1 (.slice (some ⟨g, o, none⟩) (k + 1) c) (k + 1) (stC (L ++ [x])) ∧ Below base W w' := by
  obtain ⟨g, o, c, w', h1, h2, h3⟩ := push_one Tryz.underlying51 infoStrC rfl (by decide) h (.string (ofL x)) rfl hb hl
  refine ⟨g, o, c, w', h1, ?_, h3⟩
  unfold stC
  rw [List.map_append]
  exact h2

set_option maxRecDepth 100000 in
set_option maxHeartbeats 3200000 in
theorem sprint_any (l : List Rng) (v : Value) (w : World) (h : RgL w w.heap.size v l) (hl : l.length ≤ 1000) (hr : okR l) (hS : Std w) :
    Calls Tryz.prog 10 #[v] w fun e w' => e = .returned (.string (ofL (joinC (l.map partL)))) ∧ Below w.heap.size w w' := by
  obtain ⟨A, cap, rfl, hcap, hc⟩ := h
  obtain ⟨n, hn⟩ : ∃ n, l.length = n := ⟨_, rfl⟩
  rw [hn] at hcap hc hl ⊢
  have HN := Lib.hid (And.intro hn (And.intro hr hS))
  have HC := Lib.hid hc
  clear hn hc hr hS
  have hnI : (n : Int) ≤ 1000 := by omega
  go_enter Tryz.func10, Tryz.ntmps10
  go_wp2_with fail
  go_loopw [3, 9] (fun s3 i wr => ∃ (k : Nat) (sv : Value), k ≤ n ∧ sv = s3 ∧ i = .int .i64 k ∧ Buf wr w.heap.size 1 sv k (stC ((l.take k).map partL)) ∧ Below w.heap.size w wr) (fun _ i _ => n - (intOf i).toNat)
  case atStart => exact ⟨0, _, Nat.zero_le _, rfl, rfl, Buf.nil _ _ _, Below.refl _ _⟩
  case round =>
    obtain ⟨k, sv, hk, rfl, rfl, hbuf, hbel⟩ := hrel
    have hkI : (k : Int) ≤ n := by omega
    by_cases hlt : k < n
    · have hltI : (k : Int) < n := by omega
      have hkl : k < l.length := by have := HN.out.1; omega
      obtain ⟨⟨a, c⟩, hre⟩ : ∃ r, l[k] = r := ⟨_, rfl⟩
      have hrr : l[k]? = some ⟨a, c⟩ := by rw [List.getElem?_eq_getElem hkl, hre]
      obtain ⟨hra, hrc⟩ := HN.out.2.1 ⟨a, c⟩ (List.mem_of_getElem? hrr)
      dsimp only at hra hrc
      obtain ⟨b, o, rfl, hb, hcl⟩ := HC.out (by omega)
      obtain ⟨e0, e1⟩ := hcl k _ hrr
      have c0 : wr.cell? ⟨b, o + k * 2, none⟩ = some (.int .u32 (a : Nat)) := (hbel.cell (p := ⟨b, o + k * 2, none⟩) hb).trans e0
      have c1 : wr.cell? ⟨b, o + k * 2 + 1, none⟩ = some (.int .u32 (c : Nat)) := (hbel.cell (p := ⟨b, o + k * 2 + 1, none⟩) hb).trans e1
      have hbx : Below wr.heap.size wr (wr.alloc (.cells #[.int .u32 (a : Nat), .int .u32 (c : Nat)] 32)) := (Below.refl _ _).alloc (Nat.le_refl _) _
      have hblk : Blk (wr.alloc (.cells #[.int .u32 (a : Nat), .int .u32 (c : Nat)] 32)) wr.heap.size 32 #[.int .u32 (a : Nat), .int .u32 (c : Nat)] := Blk.made _ _ _
      have hw0 := hbel.trans (hbx.mono hbel.size)
      have HF := Lib.hid (fun (z : Nat) (hz : z < 4294967296) W (hb : Below w.heap.size w W) => form_any z W hz (HN.out.2.2.below hb))
      have HB := Lib.hid (And.intro (hbuf.past (.cells #[.int .u32 (a : Nat), .int .u32 (c : Nat)] 32)) (And.intro hblk (And.intro hw0 (And.intro hre (And.intro hkl (And.intro hra hrc))))))
      clear hbuf hbel hre hrr e0 e1 hcl hbx hblk hw0 hra hrc
      go_wp2_with fail
      refine (HF.out a (by have := HB.out.2.2.2.2.2.1; omega) _ HB.out.2.2.1).mono ?_
      rintro e w1 ⟨rfl, hb1⟩
      have H1 := Lib.hid (show Buf w1 w.heap.size 1 sv k (stC ((l.take k).map partL)) ∧ Blk w1 wr.heap.size 32 #[.int .u32 (a : Nat), .int .u32 (c : Nat)] ∧ Below w.heap.size w w1 from ⟨HB.out.1.below hb1 (Nat.le_refl _), HB.out.2.1.below hb1 HB.out.2.1.lt, HB.out.2.2.1.trans (hb1.mono HB.out.2.2.1.size)⟩)
      have d0 : w1.cell? ⟨wr.heap.size, 0, none⟩ = some (.int .u32 (a : Nat)) := H1.out.2.1.cell 0
      have d1 : w1.cell? ⟨wr.heap.size, 1, none⟩ = some (.int .u32 (c : Nat)) := H1.out.2.1.cell 1
      clear hb1 c0 c1
      have hfa := form_len (n := a) HB.out.2.2.2.2.2.1
      by_cases hac : a = c
      · subst hac
        obtain ⟨g, o2, c2, w2, hrun, hb2, hbel2⟩ := push_str (by rw [List.length_map, List.length_take]; have := HB.out.2.2.2.2.1; omega) H1.out.1 (formL a) H1.out.2.2.size (by omega)
        have HR := Lib.hid hrun
        have H2 := Lib.hid (And.intro hb2 (H1.out.2.2.trans hbel2))
        have HP : Hid ((l.take (k + 1)).map partL = (l.take k).map partL ++ [formL a]) := Lib.hid (by
          rw [List.take_succ_eq_append_getElem HB.out.2.2.2.2.1, List.map_append, HB.out.2.2.2.1]
          simp [partL])
        clear hrun hb2 hbel2 hfa
        generalize ofL (formL a) = fx at *
        go_wp2_with (at_builtin; refine wpList_append_run _ rfl (.tmp 29) (.tmp 31) _ _ rfl _ _ rfl rfl _ _ HR.out ?_)
        go_roundw
        case rel =>
          refine ⟨k + 1, _, by omega, rfl, by go_num, ?_, H2.out.2⟩
          rw [HP.out]
          exact H2.out.1
        case measure => simp [intOf]; omega
      · have hacI : ((c : Int) == (a : Int)) = false := by rw [beq_eq_false_iff_ne]; omega
        have hacJ : ((a : Int) == (c : Int)) = false := by rw [beq_eq_false_iff_ne]; omega
        have hacN : ¬ ((c : Int) = (a : Int)) := by omega
        obtain ⟨fx, hfx⟩ : ∃ fx, ofL (formL a) = fx := ⟨_, rfl⟩
        have hfs : fx.size ≤ 10 := by rw [← hfx, ofL_size]; exact hfa
        rw [hfx]
        have HX := Lib.hid hfx
        clear hfa hfx
        go_wp2_with fail
        refine (HF.out c (by have := HB.out.2.2.2.2.2.2; omega) _ H1.out.2.2).mono ?_
        rintro e w3 ⟨rfl, hb3⟩
        have hfc := form_len (n := c) HB.out.2.2.2.2.2.2
        obtain ⟨fy, hfy⟩ : ∃ fy, ofL (formL c) = fy := ⟨_, rfl⟩
        have hys : fy.size ≤ 10 := by rw [← hfy, ofL_size]; exact hfc
        rw [hfy]
        have H3 := Lib.hid (show Buf w3 w.heap.size 1 sv k (stC ((l.take k).map partL)) ∧ Below w.heap.size w w3 from ⟨H1.out.1.below hb3 (Nat.le_refl _), H1.out.2.2.trans (hb3.mono H1.out.2.2.size)⟩)
        have HY : Hid (fx ++ ((⟨#[58]⟩ : ByteArray) ++ fy) = ofL (formL a ++ 58 :: formL c)) := Lib.hid (by rw [← HX.out, ← hfy, one_str])
        obtain ⟨g, o2, c2, w2, hrun, hb2, hbel2⟩ := push_str (by rw [List.length_map, List.length_take]; have := HB.out.2.2.2.2.1; omega) H3.out.1 (formL a ++ 58 :: formL c) H3.out.2.size (by omega)
        rw [← HY.out] at hrun
        have HR := Lib.hid hrun
        have H2 := Lib.hid (And.intro hb2 (H3.out.2.trans hbel2))
        have HP : Hid ((l.take (k + 1)).map partL = (l.take k).map partL ++ [formL a ++ 58 :: formL c]) := Lib.hid (by
          rw [List.take_succ_eq_append_getElem HB.out.2.2.2.2.1, List.map_append, HB.out.2.2.2.1]
          simp [partL, hac])
        clear hrun hb2 hbel2 hfc hfy hb3
        go_wp2_with (at_builtin; refine wpList_append_run _ rfl (.tmp 29) (.tmp 31) _ _ rfl _ _ rfl rfl _ _ HR.out ?_)
        go_roundw
        case rel =>
          refine ⟨k + 1, _, by omega, rfl, by go_num, ?_, H2.out.2⟩
          rw [HP.out]
          exact H2.out.1
        case measure => simp [intOf]; omega
    · obtain rfl : k = n := by omega
      rw [List.take_of_length_le (by have := HN.out.1; omega)] at hbuf
      have hbu : Buf wr w.heap.size 1 sv (l.map partL).length (stC (l.map partL)) := by rw [List.length_map, HN.out.1]; exact hbuf
      have hjl : (joinC (l.map partL)).length ≤ 1048576 := by
        have h1 := joinC_len (l.map partL) 21 (fun x hx => by
          obtain ⟨r, hr, rfl⟩ := List.mem_map.1 hx
          exact part_len (HN.out.2.1 r hr).1 (HN.out.2.1 r hr).2)
        rw [List.length_map, HN.out.1] at h1
        omega
      have HJ := Lib.hid (join_cm sv (l.map partL) wr w.heap.size hbu hjl (by rw [List.length_map, HN.out.1]; omega))
      have HB := Lib.hid hbel
      clear hbuf hbel hbu hjl
      go_wp2_with fail
      refine HJ.out.mono ?_
      rintro e w4 ⟨rfl, hb4⟩
      have H4 := Lib.hid (HB.out.trans (hb4.mono HB.out.size))
      clear hb4
      go_wp2_with fail
      go_ret
      exact ⟨rfl, H4.out⟩

set_option maxRecDepth 100000 in
set_option maxHeartbeats 3200000 in
theorem rprint_any (l : List Rng) (v : Value) (w : World) (h : RgL w w.heap.size v l) (hl : l.length ≤ 1000) (hr : okR l) :
    Calls Tryz.prog 12 #[v] w fun e w' => e = .returned (.string (ofL (joinC (l.map partL)))) ∧ Below w.heap.size w w' := by
  obtain ⟨A, cap, rfl, hcap, hc⟩ := h
  obtain ⟨n, hn⟩ : ∃ n, l.length = n := ⟨_, rfl⟩
  rw [hn] at hcap hc hl ⊢
  have HL : Hid (∀ k, (ofL (joinC ((l.take k).map partL))).size ≤ 22000) := Lib.hid (fun k => by
    rw [ofL_size]
    have h1 := joinC_len ((l.take k).map partL) 21 (fun x hx => by
      obtain ⟨r, hr2, rfl⟩ := List.mem_map.1 hx
      have := hr r (List.mem_of_mem_take hr2)
      exact part_len this.1 this.2)
    rw [List.length_map, List.length_take] at h1
    have : (min k l.length) * (21 + 1) ≤ 1000 * 22 := Nat.mul_le_mul (by omega) (by omega)
    omega)
  have HN := Lib.hid (And.intro hn hr)
  have HC := Lib.hid hc
  clear hn hc hr
  have hnI : (n : Int) ≤ 1000 := by omega
  go_enter Tryz.func12, Tryz.ntmps12
  go_wp2_with fail
  go_loopw [3, 4] (fun s3 i wr => ∃ (k : Nat) (s : ByteArray), k ≤ n ∧ s3 = .string s ∧ s = ofL (joinC ((l.take k).map partL)) ∧ i = .int .i64 k ∧ Below w.heap.size w wr) (fun _ i _ => n - (intOf i).toNat)
  case atStart => exact ⟨0, _, Nat.zero_le _, rfl, rfl, rfl, Below.refl _ _⟩
  case round =>
    obtain ⟨k, s, hk, rfl, hs, rfl, hbel⟩ := hrel
    have hkI : (k : Int) ≤ n := by omega
    have hss : s.size ≤ 22000 := by rw [hs]; exact HL.out k
    by_cases hlt : k < n
    · have hltI : (k : Int) < n := by omega
      have hkl : k < l.length := by have := HN.out.1; omega
      obtain ⟨⟨a, c⟩, hre⟩ : ∃ r, l[k] = r := ⟨_, rfl⟩
      have hrr : l[k]? = some ⟨a, c⟩ := by rw [List.getElem?_eq_getElem hkl, hre]
      obtain ⟨hra, hrc⟩ := HN.out.2 ⟨a, c⟩ (List.mem_of_getElem? hrr)
      dsimp only at hra hrc
      obtain ⟨b, o, rfl, hb, hcl⟩ := HC.out (by omega)
      obtain ⟨e0, e1⟩ := hcl k _ hrr
      have c0 : wr.cell? ⟨b, o + k * 2, none⟩ = some (.int .u32 (a : Nat)) := (hbel.cell (p := ⟨b, o + k * 2, none⟩) hb).trans e0
      have c1 : wr.cell? ⟨b, o + k * 2 + 1, none⟩ = some (.int .u32 (c : Nat)) := (hbel.cell (p := ⟨b, o + k * 2 + 1, none⟩) hb).trans e1
      have HF := Lib.hid (fun (z : Nat) (hz : z < 4294967296) W => rform_any z W hz)
      have hsn : joinC ((l.take (k + 1)).map partL) = if k = 0 then partL ⟨a, c⟩ else joinC ((l.take k).map partL) ++ 44 :: partL ⟨a, c⟩ := by
        rw [List.take_succ_eq_append_getElem hkl, List.map_append, hre, List.map_cons, List.map_nil, joinC_snoc]
        by_cases h0 : k = 0
        · subst h0; rfl
        · rw [if_neg h0, if_neg]
          intro e
          rw [List.map_eq_nil_iff, List.take_eq_nil_iff] at e
          rcases e with e | e
          · exact h0 e
          · subst e; simp at hkl
      have hfa := form_len (n := a) hra
      have hfc := form_len (n := c) hrc
      obtain ⟨fx, hfx⟩ : ∃ fx, ofL (formL a) = fx := ⟨_, rfl⟩
      obtain ⟨fy, hfy⟩ : ∃ fy, ofL (formL c) = fy := ⟨_, rfl⟩
      have hxs : fx.size ≤ 10 := by rw [← hfx, ofL_size]; exact hfa
      have hys : fy.size ≤ 10 := by rw [← hfy, ofL_size]; exact hfc
      have HFa := Lib.hid (HF.out a (by omega))
      have HFc := Lib.hid (HF.out c (by omega))
      rw [hfx] at HFa
      rw [hfy] at HFc
      have HB := Lib.hid (And.intro hbel (And.intro hs (And.intro hsn (And.intro hfx hfy))))
      have HK : Hid (wr.cell? ⟨b, o + k * 2, none⟩ = some (.int .u32 (a : Nat)) ∧ wr.cell? ⟨b, o + k * 2 + 1, none⟩ = some (.int .u32 (c : Nat))) := Lib.hid ⟨c0, c1⟩
      clear hbel hs hre hrr e0 e1 hcl hra hrc hsn hfa hfc hfx hfy HF
      by_cases hk0 : k = 0
      · have HK0 := Lib.hid hk0
        have hk0I : ¬ ((0 : Int) < k) := by omega
        have hk0d : decide ((0 : Int) < (k : Int)) = false := decide_eq_false hk0I
        clear hk0
        go_wp2_with fail
        refine (HFa.out _).mono ?_
        rintro e w1 ⟨rfl, rfl⟩
        go_upto_region 8 with fail
        refine region_anyC (fun W => W.cell? ⟨b, o + k * 2, none⟩ = some (.int .u32 (a : Nat)) ∧ W.cell? ⟨b, o + k * 2 + 1, none⟩ = some (.int .u32 (c : Nat))) (by kernel_rfl) ?_
        refine anyC_take (i := 0) (v := ?_) rfl (by kernel_rfl) (by kernel_rfl) (by kernel_rfl) (fun _ _ _ h => h) (HK.out) (Or.inl ⟨by rfl, ?_⟩) ?_
        rotate_left
        · intro W hW
          go_simp
          try with_reducible rfl
        try simp only [List.getElem_toArray, List.getElem_cons_zero, List.getElem_cons_succ, Act.put, List.setIfInBounds_toArray, List.set_cons_zero, List.set_cons_succ]
        refine anyC_take (i := 1) (v := ?_) rfl (by kernel_rfl) (by kernel_rfl) (by kernel_rfl) (fun _ _ _ h => h) (HK.out) (Or.inl ⟨by rfl, ?_⟩) ?_
        rotate_left
        · intro W hW
          go_simp
          try with_reducible rfl
        try simp only [List.getElem_toArray, List.getElem_cons_zero, List.getElem_cons_succ, Act.put, List.setIfInBounds_toArray, List.set_cons_zero, List.set_cons_succ]
        refine anyC_take (i := 2) (v := ?_) rfl (by kernel_rfl) (by kernel_rfl) (by kernel_rfl) (fun _ _ _ h => h) (HK.out) (Or.inl ⟨by rfl, ?_⟩) ?_
        rotate_left
        · intro W hW
          go_simp
          try with_reducible rfl
        try simp only [List.getElem_toArray, List.getElem_cons_zero, List.getElem_cons_succ, Act.put, List.setIfInBounds_toArray, List.set_cons_zero, List.set_cons_succ]
        refine anyC_take (i := 3) (v := ?_) rfl (by kernel_rfl) (by kernel_rfl) (by kernel_rfl) (fun _ _ _ h => h) (HK.out) (Or.inl ⟨by rfl, ?_⟩) ?_
        rotate_left
        · intro W hW
          go_simp
          try with_reducible rfl
        try simp only [List.getElem_toArray, List.getElem_cons_zero, List.getElem_cons_succ, Act.put, List.setIfInBounds_toArray, List.set_cons_zero, List.set_cons_succ]
        refine anyC_take (i := 4) (v := ?_) rfl (by kernel_rfl) (by kernel_rfl) (by kernel_rfl) (fun _ _ _ h => h) (HK.out) (Or.inl ⟨by rfl, ?_⟩) ?_
        rotate_left
        · intro W hW
          obtain ⟨z0, z1⟩ := hW
          go_simp
          try with_reducible rfl
        try simp only [List.getElem_toArray, List.getElem_cons_zero, List.getElem_cons_succ, Act.put, List.setIfInBounds_toArray, List.set_cons_zero, List.set_cons_succ]
        refine anyC_take (i := 5) (v := ?_) rfl (by kernel_rfl) (by kernel_rfl) (by kernel_rfl) (fun _ _ _ h => h) (HK.out) (Or.inl ⟨by rfl, ?_⟩) ?_
        rotate_left
        · intro W hW
          go_simp
          try with_reducible rfl
        try simp only [List.getElem_toArray, List.getElem_cons_zero, List.getElem_cons_succ, Act.put, List.setIfInBounds_toArray, List.set_cons_zero, List.set_cons_succ]
        refine anyC_take (i := 6) (v := ?_) rfl (by kernel_rfl) (by kernel_rfl) (by kernel_rfl) (fun _ _ _ h => h) (HK.out) (Or.inl ⟨by rfl, ?_⟩) ?_
        rotate_left
        · intro W hW
          go_simp
          try with_reducible rfl
        try simp only [List.getElem_toArray, List.getElem_cons_zero, List.getElem_cons_succ, Act.put, List.setIfInBounds_toArray, List.set_cons_zero, List.set_cons_succ]
        refine anyC_take (i := 7) (v := ?_) rfl (by kernel_rfl) (by kernel_rfl) (by kernel_rfl) (fun _ _ _ h => h) (HK.out) (Or.inl ⟨by rfl, ?_⟩) ?_
        rotate_left
        · intro W hW
          go_simp
          try with_reducible rfl
        try simp only [List.getElem_toArray, List.getElem_cons_zero, List.getElem_cons_succ, Act.put, List.setIfInBounds_toArray, List.set_cons_zero, List.set_cons_succ]
        refine anyC_take (i := 8) (v := ?_) rfl (by kernel_rfl) (by kernel_rfl) (by kernel_rfl) (fun _ _ _ h => h) (HK.out) (Or.inl ⟨by rfl, ?_⟩) ?_
        rotate_left
        · intro W hW
          go_simp
          try with_reducible rfl
        try simp only [List.getElem_toArray, List.getElem_cons_zero, List.getElem_cons_succ, Act.put, List.setIfInBounds_toArray, List.set_cons_zero, List.set_cons_succ]
        refine anyC_take (i := 9) (v := ?_) rfl (by kernel_rfl) (by kernel_rfl) (by kernel_rfl) (fun _ _ _ h => h) (HK.out) (Or.inl ⟨by rfl, ?_⟩) ?_
        rotate_left
        · intro W hW
          obtain ⟨z0, z1⟩ := hW
          go_simp
          try with_reducible rfl
        try simp only [List.getElem_toArray, List.getElem_cons_zero, List.getElem_cons_succ, Act.put, List.setIfInBounds_toArray, List.set_cons_zero, List.set_cons_succ]
        by_cases hac : a = c
        · subst hac
          have hacb : ((a : Int) != (a : Int)) = false := by simp
          refine anyC_take (i := 10) (v := ?_) rfl (by kernel_rfl) (by kernel_rfl) (by kernel_rfl) (fun _ _ _ h => h) (HK.out) (Or.inl ⟨by rfl, ?_⟩) ?_
          rotate_left
          · intro W hW
            go_simp
            try with_reducible rfl
          try simp only [List.getElem_toArray, List.getElem_cons_zero, List.getElem_cons_succ, Act.put, List.setIfInBounds_toArray, List.set_cons_zero, List.set_cons_succ]
          refine anyC_done (by kernel_rfl) ?_ _
          go_wp2_with fail
          go_roundw
          case rel =>
            refine ⟨k + 1, _, by omega, rfl, ?_, by go_num, Below.drew HB.out.1⟩
            obtain ⟨-, q1, q0, q2, q3⟩ := HB.out
            rw [q0, if_pos HK0.out, q1, ← q2]
            exact ba_ext (by obtain rfl := HK0.out; simp [ByteArray.data_append, ofL_data, partL, joinC])
          case measure => simp [intOf]; omega
        · have hacb : ((a : Int) != (c : Int)) = true := by simp; omega
          refine anyC_take (i := 10) (v := ?_) rfl (by kernel_rfl) (by kernel_rfl) (by kernel_rfl) (fun _ _ _ h => h) (HK.out) (Or.inl ⟨by rfl, ?_⟩) ?_
          rotate_left
          · intro W hW
            go_simp
            try with_reducible rfl
          try simp only [List.getElem_toArray, List.getElem_cons_zero, List.getElem_cons_succ, Act.put, List.setIfInBounds_toArray, List.set_cons_zero, List.set_cons_succ]
          refine anyC_done (by kernel_rfl) ?_ _
          go_wp2_with fail
          refine (HFc.out _).mono ?_
          rintro e w1 ⟨rfl, rfl⟩
          go_wp2_with fail
          go_roundw
          case rel =>
            refine ⟨k + 1, _, by omega, rfl, ?_, by go_num, Below.drew HB.out.1⟩
            obtain ⟨-, q1, q0, q2, q3⟩ := HB.out
            rw [q0, if_pos HK0.out, q1, ← q2, ← q3]
            exact ba_ext (by obtain rfl := HK0.out; simp [ByteArray.data_append, ofL_data, partL, joinC, hac])
          case measure => simp [intOf]; omega
      · have HK0 := Lib.hid hk0
        have hk0I : (0 : Int) < k := by omega
        have hk0d : decide ((0 : Int) < (k : Int)) = true := decide_eq_true hk0I
        clear hk0
        go_wp2_with fail
        refine (HFa.out _).mono ?_
        rintro e w1 ⟨rfl, rfl⟩
        go_upto_region 8 with fail
        refine region_anyC (fun W => W.cell? ⟨b, o + k * 2, none⟩ = some (.int .u32 (a : Nat)) ∧ W.cell? ⟨b, o + k * 2 + 1, none⟩ = some (.int .u32 (c : Nat))) (by kernel_rfl) ?_
        refine anyC_take (i := 0) (v := ?_) rfl (by kernel_rfl) (by kernel_rfl) (by kernel_rfl) (fun _ _ _ h => h) (HK.out) (Or.inl ⟨by rfl, ?_⟩) ?_
        rotate_left
        · intro W hW
          go_simp
          try with_reducible rfl
        try simp only [List.getElem_toArray, List.getElem_cons_zero, List.getElem_cons_succ, Act.put, List.setIfInBounds_toArray, List.set_cons_zero, List.set_cons_succ]
        refine anyC_take (i := 1) (v := ?_) rfl (by kernel_rfl) (by kernel_rfl) (by kernel_rfl) (fun _ _ _ h => h) (HK.out) (Or.inl ⟨by rfl, ?_⟩) ?_
        rotate_left
        · intro W hW
          go_simp
          try with_reducible rfl
        try simp only [List.getElem_toArray, List.getElem_cons_zero, List.getElem_cons_succ, Act.put, List.setIfInBounds_toArray, List.set_cons_zero, List.set_cons_succ]
        refine anyC_take (i := 2) (v := ?_) rfl (by kernel_rfl) (by kernel_rfl) (by kernel_rfl) (fun _ _ _ h => h) (HK.out) (Or.inl ⟨by rfl, ?_⟩) ?_
        rotate_left
        · intro W hW
          go_simp
          try with_reducible rfl
        try simp only [List.getElem_toArray, List.getElem_cons_zero, List.getElem_cons_succ, Act.put, List.setIfInBounds_toArray, List.set_cons_zero, List.set_cons_succ]
        refine anyC_take (i := 3) (v := ?_) rfl (by kernel_rfl) (by kernel_rfl) (by kernel_rfl) (fun _ _ _ h => h) (HK.out) (Or.inl ⟨by rfl, ?_⟩) ?_
        rotate_left
        · intro W hW
          go_simp
          try with_reducible rfl
        try simp only [List.getElem_toArray, List.getElem_cons_zero, List.getElem_cons_succ, Act.put, List.setIfInBounds_toArray, List.set_cons_zero, List.set_cons_succ]
        refine anyC_take (i := 4) (v := ?_) rfl (by kernel_rfl) (by kernel_rfl) (by kernel_rfl) (fun _ _ _ h => h) (HK.out) (Or.inl ⟨by rfl, ?_⟩) ?_
        rotate_left
        · intro W hW
          obtain ⟨z0, z1⟩ := hW
          go_simp
          try with_reducible rfl
        try simp only [List.getElem_toArray, List.getElem_cons_zero, List.getElem_cons_succ, Act.put, List.setIfInBounds_toArray, List.set_cons_zero, List.set_cons_succ]
        refine anyC_take (i := 5) (v := ?_) rfl (by kernel_rfl) (by kernel_rfl) (by kernel_rfl) (fun _ _ _ h => h) (HK.out) (Or.inl ⟨by rfl, ?_⟩) ?_
        rotate_left
        · intro W hW
          go_simp
          try with_reducible rfl
        try simp only [List.getElem_toArray, List.getElem_cons_zero, List.getElem_cons_succ, Act.put, List.setIfInBounds_toArray, List.set_cons_zero, List.set_cons_succ]
        refine anyC_take (i := 6) (v := ?_) rfl (by kernel_rfl) (by kernel_rfl) (by kernel_rfl) (fun _ _ _ h => h) (HK.out) (Or.inl ⟨by rfl, ?_⟩) ?_
        rotate_left
        · intro W hW
          go_simp
          try with_reducible rfl
        try simp only [List.getElem_toArray, List.getElem_cons_zero, List.getElem_cons_succ, Act.put, List.setIfInBounds_toArray, List.set_cons_zero, List.set_cons_succ]
        refine anyC_take (i := 7) (v := ?_) rfl (by kernel_rfl) (by kernel_rfl) (by kernel_rfl) (fun _ _ _ h => h) (HK.out) (Or.inl ⟨by rfl, ?_⟩) ?_
        rotate_left
        · intro W hW
          go_simp
          try with_reducible rfl
        try simp only [List.getElem_toArray, List.getElem_cons_zero, List.getElem_cons_succ, Act.put, List.setIfInBounds_toArray, List.set_cons_zero, List.set_cons_succ]
        refine anyC_take (i := 8) (v := ?_) rfl (by kernel_rfl) (by kernel_rfl) (by kernel_rfl) (fun _ _ _ h => h) (HK.out) (Or.inl ⟨by rfl, ?_⟩) ?_
        rotate_left
        · intro W hW
          go_simp
          try with_reducible rfl
        try simp only [List.getElem_toArray, List.getElem_cons_zero, List.getElem_cons_succ, Act.put, List.setIfInBounds_toArray, List.set_cons_zero, List.set_cons_succ]
        refine anyC_take (i := 9) (v := ?_) rfl (by kernel_rfl) (by kernel_rfl) (by kernel_rfl) (fun _ _ _ h => h) (HK.out) (Or.inl ⟨by rfl, ?_⟩) ?_
        rotate_left
        · intro W hW
          obtain ⟨z0, z1⟩ := hW
          go_simp
          try with_reducible rfl
        try simp only [List.getElem_toArray, List.getElem_cons_zero, List.getElem_cons_succ, Act.put, List.setIfInBounds_toArray, List.set_cons_zero, List.set_cons_succ]
        by_cases hac : a = c
        · subst hac
          have hacb : ((a : Int) != (a : Int)) = false := by simp
          refine anyC_take (i := 10) (v := ?_) rfl (by kernel_rfl) (by kernel_rfl) (by kernel_rfl) (fun _ _ _ h => h) (HK.out) (Or.inl ⟨by rfl, ?_⟩) ?_
          rotate_left
          · intro W hW
            go_simp
            try with_reducible rfl
          try simp only [List.getElem_toArray, List.getElem_cons_zero, List.getElem_cons_succ, Act.put, List.setIfInBounds_toArray, List.set_cons_zero, List.set_cons_succ]
          refine anyC_done (by kernel_rfl) ?_ _
          go_wp2_with fail
          go_roundw
          case rel =>
            refine ⟨k + 1, _, by omega, rfl, ?_, by go_num, Below.drew HB.out.1⟩
            obtain ⟨-, q1, q0, q2, q3⟩ := HB.out
            rw [q0, if_neg HK0.out, q1, ← q2]
            exact ba_ext (by simp [ByteArray.data_append, ofL_data, partL])
          case measure => simp [intOf]; omega
        · have hacb : ((a : Int) != (c : Int)) = true := by simp; omega
          refine anyC_take (i := 10) (v := ?_) rfl (by kernel_rfl) (by kernel_rfl) (by kernel_rfl) (fun _ _ _ h => h) (HK.out) (Or.inl ⟨by rfl, ?_⟩) ?_
          rotate_left
          · intro W hW
            go_simp
            try with_reducible rfl
          try simp only [List.getElem_toArray, List.getElem_cons_zero, List.getElem_cons_succ, Act.put, List.setIfInBounds_toArray, List.set_cons_zero, List.set_cons_succ]
          refine anyC_done (by kernel_rfl) ?_ _
          go_wp2_with fail
          refine (HFc.out _).mono ?_
          rintro e w1 ⟨rfl, rfl⟩
          go_wp2_with fail
          go_roundw
          case rel =>
            refine ⟨k + 1, _, by omega, rfl, ?_, by go_num, Below.drew HB.out.1⟩
            obtain ⟨-, q1, q0, q2, q3⟩ := HB.out
            rw [q0, if_neg HK0.out, q1, ← q2, ← q3]
            exact ba_ext (by simp [ByteArray.data_append, ofL_data, partL, hac])
          case measure => simp [intOf]; omega
    · obtain rfl : k = n := by omega
      rw [List.take_of_length_le (by have := HN.out.1; omega)] at hs
      have HB := Lib.hid (And.intro hs hbel)
      clear hs hbel
      go_wp2_with fail
      go_ret
      exact ⟨by first | rfl | (rw [HB.out.1]; rfl), HB.out.2⟩

def toP (r : Rng) : Int × Int := ((r.lo : Int), (r.hi : Int))
theorem RgL.of_pairs {W : World} {base : Nat} {v : Value} {L : List Rng} {P : List (Int × Int)} (hP : P = L.map toP) (h : Buf W base 2 v P.length (P.flatMap encP)) : RgL W W.heap.size v L := by
  subst hP
  rw [List.length_map] at h
  rcases h.2 with ⟨rfl, h0⟩ | ⟨g, off, cap, rfl, h1, h2, h3, h4, -⟩
  · exact ⟨none, 0, by rw [h0], by omega, fun h => absurd h (by omega)⟩
  · refine ⟨_, cap, rfl, h3, fun _ => ⟨g, off, rfl, h2, fun j r hj => ?_⟩⟩
    have hg : ∀ (M : List Rng) (j : Nat) (r : Rng), M[j]? = some r → ((M.map toP).flatMap encP)[j * 2]? = some (.int .u32 (r.lo : Nat)) ∧ ((M.map toP).flatMap encP)[j * 2 + 1]? = some (.int .u32 (r.hi : Nat)) := by
      intro M
      induction M with
      | nil => intro j r h; simp at h
      | cons y M ih =>
        intro j r hj
        cases j with
        | zero => simp only [List.getElem?_cons_zero, Option.some.injEq] at hj; subst hj; exact ⟨rfl, rfl⟩
        | succ j =>
          have h := ih j r (by simpa using hj)
          rw [List.map_cons, List.flatMap_cons, List.getElem?_append_right (by show 2 ≤ (j + 1) * 2; omega), List.getElem?_append_right (by show 2 ≤ (j + 1) * 2 + 1; omega), show (encP (toP y)).length = 2 from rfl, show (j + 1) * 2 - 2 = j * 2 by omega, show (j + 1) * 2 + 1 - 2 = j * 2 + 1 by omega]
          exact h
    obtain ⟨f0, f1⟩ := hg L j r hj
    exact ⟨h4 _ _ f0, h4 _ _ f1⟩
theorem part_piece {p a b : List UInt8} (h : (p = a ++ 58 :: b ∧ (58 : UInt8) ∉ a) ∨ ((58 : UInt8) ∉ p ∧ p = a ∧ p = b)) : a.length ≤ p.length ∧ b.length ≤ p.length := by
  rcases h with ⟨rfl, -⟩ | ⟨-, rfl, e⟩
  · rw [List.length_append, List.length_cons]; omega
  · rw [← e]; omega
set_option maxRecDepth 100000 in
set_option maxHeartbeats 3200000 in
theorem parse_ok (s : ByteArray) (L : List Rng) (w : World) (hs : s.size ≤ 1000000) (hS : Std w) (hM : StdM w) (hn : (splitOn 44 s.data.toList).length = L.length) (hP : ∀ (i : Nat) (p : List UInt8) (r : Rng), (splitOn 44 s.data.toList)[i]? = some p → L[i]? = some r → PartIs p r) :
    Calls Tryz.prog 11 #[.string s] w fun e w' => ∃ v, e = .returned (.tuple #[v, .bool true]) ∧ Buf w' w.heap.size 2 v (L.map toP).length ((L.map toP).flatMap encP) ∧ Below w.heap.size w w' := by
  have HSp := Lib.hid (split_cm s w hM (by omega))
  have hpl := splitOn_pieceC 44 s.data.toList
  have hll := splitOn_lenC 44 s.data.toList
  obtain ⟨ps, hps⟩ : ∃ ps, splitOn 44 s.data.toList = ps := ⟨_, rfl⟩
  rw [hps] at HSp hn hP hpl hll
  have hsz : s.data.toList.length = s.size := by rw [Array.length_toList]; rfl
  obtain ⟨n, hnn⟩ : ∃ n, ps.length = n := ⟨_, rfl⟩
  rw [hnn] at HSp hn hll
  have hnI : (n : Int) ≤ 1000001 := by omega
  have HN := Lib.hid (And.intro hn (And.intro hP (And.intro (fun p hp => Nat.le_trans (hpl p hp) (by omega : s.data.toList.length ≤ 1000000)) (And.intro hS (And.intro hM hnn)))))
  have hnb : n ≤ 1000001 := by omega
  clear hn hP hpl hps hS hM hnn hsz hll
  go_enter Tryz.func11, Tryz.ntmps11
  go_wp2_with fail
  refine HSp.out.mono ?_
  rintro e w1 ⟨rfl, hblk, hb1⟩
  have H1 := Lib.hid (And.intro hblk hb1)
  clear hblk hb1
  go_wp2_with fail
  go_loopw [4, 17] (fun s4 i wr => ∃ (k : Nat) (sv : Value), k ≤ n ∧ sv = s4 ∧ i = .int .i64 k ∧ Buf wr w1.heap.size 2 sv k (((L.take k).map toP).flatMap encP) ∧ Below w1.heap.size w1 wr) (fun _ i _ => n - (intOf i).toNat)
  case atStart => exact ⟨0, _, Nat.zero_le _, rfl, rfl, Buf.nil _ _ _, Below.refl _ _⟩
  case round =>
    obtain ⟨k, sv, hk, rfl, rfl, hbuf, hbel⟩ := hrel
    have hkI : (k : Int) ≤ n := by omega
    by_cases hlt : k < n
    · have hltI : (k : Int) < n := by omega
      have hkp : k < ps.length := by have := HN.out.2.2.2.2.2; omega
      have hkL : k < L.length := by have := HN.out.1; omega
      obtain ⟨p, hpe⟩ : ∃ p, ps[k] = p := ⟨_, rfl⟩
      obtain ⟨⟨lo, hi⟩, hre⟩ : ∃ r, L[k] = r := ⟨_, rfl⟩
      have hpk : ps[k]? = some p := by rw [List.getElem?_eq_getElem hkp, hpe]
      obtain ⟨a, b, hab, ha, hb⟩ := HN.out.2.1 k p ⟨lo, hi⟩ hpk (by rw [List.getElem?_eq_getElem hkL, hre])
      dsimp only at ha hb
      have hpz : p.length ≤ 1000000 := HN.out.2.2.1 p (List.mem_of_getElem? hpk)
      obtain ⟨haz, hbz⟩ := part_piece hab
      have hw0 : Below w.heap.size w wr := H1.out.2.trans (hbel.mono H1.out.2.size)
      have hblk := H1.out.1.below hbel H1.out.1.lt
      have c0 : wr.cell? ⟨w.heap.size, k, none⟩ = some (.string (ofL p)) := (hblk.cell k).trans (by simp [hpk])
      have HC := Lib.hid (cut_any (ofL p) wr (HN.out.2.2.2.2.1.below hw0) (by rw [ofL_size]; omega))
      rw [ofL_data] at HC
      have HNa := Lib.hid (fun W (h : Below w.heap.size w W) => snumber_ok (ofL a) lo W (by rw [ofL_size]; omega) (HN.out.2.2.2.1.below h) (by rw [ofL_data]; exact ha))
      have HNb := Lib.hid (fun W (h : Below w.heap.size w W) => snumber_ok (ofL b) hi W (by rw [ofL_size]; omega) (HN.out.2.2.2.1.below h) (by rw [ofL_data]; exact hb))
      have TAIL : Hid (∀ W, Below wr.heap.size wr W → ∃ g o c W', (Builtin.append_ #[22, 22] 22 #[sv, .slice (some ⟨W.heap.size, 0, none⟩) 1 1]).run Tryz.prog (W.alloc (.cells #[.int .u32 (lo : Nat), .int .u32 (hi : Nat)] 32)) = .ok (.slice (some ⟨g, o, none⟩) (k + 1) c) W' ∧
          Buf W' w1.heap.size 2 (.slice (some ⟨g, o, none⟩) (k + 1) c) (k + 1) (((L.take (k + 1)).map toP).flatMap encP) ∧ Below w1.heap.size w1 W') := Lib.hid (fun W hW => by
        obtain ⟨g, o, c, W', hrun, hb2, hbl2⟩ := push_pair (P := (L.take k).map toP) (by rw [List.length_map, List.length_take]; omega) (hbuf.below hW (Nat.le_refl _)) (lo : Nat) (hi : Nat) (Nat.le_trans hbel.size hW.size) (by omega)
        refine ⟨g, o, c, W', hrun, ?_, (hbel.trans (hW.mono hbel.size)).trans hbl2⟩
        rw [List.take_succ_eq_append_getElem hkL, List.map_append, hre]
        exact hb2)
      have HB := Lib.hid (And.intro hw0 hab)
      clear hbuf hblk hbel hre hpk hpe ha hb hpz haz hbz hab hw0
      have hcl : ∀ W, Below wr.heap.size wr W → Below w.heap.size w W := fun W h => HB.out.1.trans (h.mono HB.out.1.size)
      have HCL := Lib.hid hcl
      clear hcl
      rcases HB.out.2 with ⟨hp, ha⟩ | ⟨hp, e1, e2⟩
      · have hcut : Lib.cut p [58] = (a, b, true) := by rw [hp]; exact cut_hit ha
        rw [hcut] at HC
        dsimp only at HC
        clear hp ha
        go_wp2_with fail
        refine HC.out.mono ?_
        rintro e w2 ⟨rfl, qn, rfl⟩
        have HD := Lib.hid (show Below wr.heap.size wr (wr.drewN qn) from drewn_below (Below.refl _ _) qn)
        go_wp2_with fail
        refine (HNa.out _ (HCL.out _ HD.out)).mono ?_
        rintro e w3 ⟨rfl, hb3⟩
        have HE := Lib.hid (HD.out.trans (hb3.mono HD.out.size))
        clear hb3
        go_wp2_with fail
        refine (HNb.out _ (HCL.out _ HE.out)).mono ?_
        rintro e w4 ⟨rfl, hb4⟩
        have HG := Lib.hid (HE.out.trans (hb4.mono HE.out.size))
        clear hb4
        obtain ⟨g, o, c, w5, hrun, hb5, hbl5⟩ := TAIL.out _ HG.out
        have HR := Lib.hid hrun
        have H5 := Lib.hid (And.intro hb5 hbl5)
        clear hrun hb5 hbl5
        go_wp2_with (at_builtin; refine wpList_append_run _ rfl (.tmp 46) (.tmp 50) _ _ rfl _ _ rfl rfl _ _ HR.out ?_)
        go_roundw
        case rel => exact ⟨k + 1, _, by omega, rfl, by go_num, H5.out.1, H5.out.2⟩
        case measure => simp [intOf]; omega
      · rw [cut_miss hp] at HC
        dsimp only at HC
        subst e1
        subst e2
        clear hp
        go_wp2_with fail
        refine HC.out.mono ?_
        rintro e w2 ⟨rfl, qn, rfl⟩
        have HD := Lib.hid (show Below wr.heap.size wr (wr.drewN qn) from drewn_below (Below.refl _ _) qn)
        go_wp2_with fail
        refine (HNa.out _ (HCL.out _ HD.out)).mono ?_
        rintro e w3 ⟨rfl, hb3⟩
        have HE := Lib.hid (HD.out.trans (hb3.mono HD.out.size))
        clear hb3
        go_wp2_with fail
        refine (HNb.out _ (HCL.out _ HE.out)).mono ?_
        rintro e w4 ⟨rfl, hb4⟩
        have HG := Lib.hid (HE.out.trans (hb4.mono HE.out.size))
        clear hb4
        obtain ⟨g, o, c, w5, hrun, hb5, hbl5⟩ := TAIL.out _ HG.out
        have HR := Lib.hid hrun
        have H5 := Lib.hid (And.intro hb5 hbl5)
        clear hrun hb5 hbl5
        go_wp2_with (at_builtin; refine wpList_append_run _ rfl (.tmp 46) (.tmp 50) _ _ rfl _ _ rfl rfl _ _ HR.out ?_)
        go_roundw
        case rel => exact ⟨k + 1, _, by omega, rfl, by go_num, H5.out.1, H5.out.2⟩
        case measure => simp [intOf]; omega
    · obtain rfl : k = n := by omega
      rw [List.take_of_length_le (by have := HN.out.1; omega)] at hbuf
      have HF := Lib.hid (show Buf wr w.heap.size 2 sv (L.map toP).length ((L.map toP).flatMap encP) ∧ Below w.heap.size w wr from ⟨by rw [List.length_map, ← HN.out.1]; exact hbuf.mono H1.out.2.size, H1.out.2.trans (hbel.mono H1.out.2.size)⟩)
      clear hbuf hbel
      go_wp2_with fail
      go_ret2
      exact ⟨sv, rfl, HF.out⟩
end Go.Proofs.YtpcffnhbodjpbaaGreatDoor

namespace Go.Proofs.YtpcffnhbodjpbaaGreatDoor
open Go Go.RowKit Go.Shelf Go.Lib Go.Sort

theorem few_yes (n cap : Nat) (A : Option Addr) (w : World) (h : n ≤ 60) : Calls Tryz.prog 8 #[.slice A n cap] w fun e w' => e = .returned (.bool true) ∧ w = w' := by
  have hI : (n : Int) ≤ 60 := by omega
  have hd : decide ((n : Int) ≤ 60) = true := decide_eq_true hI
  go_enter Tryz.func8, Tryz.ntmps8
  go_wp2_with fail
  go_ret
  exact ⟨rfl, rfl⟩
theorem few_no (n cap : Nat) (A : Option Addr) (w : World) (h : ¬ n ≤ 60) : Calls Tryz.prog 8 #[.slice A n cap] w fun e w' => e = .returned (.bool false) ∧ w = w' := by
  have hI : ¬ ((n : Int) ≤ 60) := by omega
  have hd : decide ((n : Int) ≤ 60) = false := decide_eq_false hI
  go_enter Tryz.func8, Tryz.ntmps8
  go_wp2_with fail
  go_ret
  exact ⟨rfl, rfl⟩
theorem rd_lit (w : World) (T : TypeId) (vs : List Value) : Rd1 (w.alloc (.cells vs.toArray T)) (w.heap.size + 1) (.slice (some ⟨w.heap.size, 0, none⟩) vs.length vs.length) vs :=
  ⟨_, _, rfl, Nat.le_refl _, fun _ => ⟨_, _, rfl, by omega, fun j u hj => by
    have := (Blk.made w T vs.toArray).cell j
    rw [Nat.zero_add, this]
    simpa using hj⟩⟩
theorem u32_lit (w : World) (T : TypeId) (xs : List Int) : U32 (w.alloc (.cells (xs.map (Value.int .u32)).toArray T)) (w.heap.size + 1) (.slice (some ⟨w.heap.size, 0, none⟩) xs.length xs.length) xs :=
  ⟨_, _, rfl, Nat.le_refl _, fun _ => ⟨_, _, rfl, by omega, fun j u hj => by
    have := (Blk.made w T (xs.map (Value.int .u32)).toArray).cell j
    rw [Nat.zero_add, this]
    simp [hj]⟩⟩
theorem buf_shape {W : World} {B s n : Nat} {v : Value} {xs : List Value} (h : Buf W B s v n xs) : ∃ A c, v = .slice A n c := by
  rcases h.2 with ⟨rfl, e⟩ | ⟨g, off, cap, rfl, _⟩
  · exact ⟨none, 0, by rw [e]⟩
  · exact ⟨_, cap, rfl⟩

def exL : List RB := [(5, 0), (2, 2)]
theorem ex_parts : splitOn 44 (⟨#[53, 58, 42, 44, 50]⟩ : ByteArray).data.toList = [[53, 58, 42], [50]] := by decide
theorem ex_is : ∀ (i : Nat) (p : List UInt8) (r : Rng), ([[53, 58, 42], [50]] : List (List UInt8))[i]? = some p → (exL.map RB.rng)[i]? = some r → PartIs p r
  | 0, p, r, hp, hr => by
    injection hp with hp
    injection hr with hr
    subst hp hr
    exact ⟨[53], [42], .inl ⟨rfl, by decide⟩, by decide +kernel, by decide +kernel⟩
  | 1, p, r, hp, hr => by
    injection hp with hp
    injection hr with hr
    subst hp hr
    exact ⟨[50], [50], .inr ⟨by decide, rfl, rfl⟩, by decide +kernel, by decide +kernel⟩
  | i + 2, p, r, hp, hr => by simp at hp
theorem ex_7 : numsOf 7 (exL.map RB.rng) = [2, 5, 6, 7] := by decide
theorem ex_4 : numsOf 4 (exL.map RB.rng) = [] := by decide
theorem ex_srt2 : srtU [3, 1, 2, 7] = [1, 2, 3, 7] := by decide
theorem ex_grp : grp [1, 2, 3, 7] = [(1, 3), (7, 7)] := by decide
theorem ex_str : ofL (joinC (([⟨1, 3⟩, ⟨7, 7⟩] : List Rng).map partL)) = (⟨#[49, 58, 51, 44, 55]⟩ : ByteArray) := ba_ext (by rw [ofL_data]; decide +kernel)

set_option maxRecDepth 100000 in
set_option maxHeartbeats 3200000 in
theorem alive_any (w : World) (hS : Std w) (hM : StdM w) : Calls Tryz.prog 9 #[] w fun e w' => e = .returned (.bool true) ∧ Below w.heap.size w w' := by
  have HP := Lib.hid (parse_ok ⟨#[53, 58, 42, 44, 50]⟩ (exL.map RB.rng) w (by decide) hS hM (by rw [ex_parts]; rfl) (by rw [ex_parts]; exact ex_is))
  have HS := Lib.hid hS
  clear hS hM
  go_enter Tryz.func9, Tryz.ntmps9
  go_wp2_with fail
  refine HP.out.mono ?_
  rintro e w1 ⟨v1, rfl, hb1, hl1⟩
  have H1 := Lib.hid (And.intro (RgL.of_pairs rfl hb1) hl1)
  have HN := Lib.hid (numbers_any 7 (by decide) exL v1 w1 H1.out.1 (by decide))
  rw [ex_7] at HN
  clear hb1 hl1
  go_wp2_with fail
  refine HN.out.mono ?_
  rintro e w2 ⟨v2, rfl, hb2, hl2⟩
  have hbx : Below w2.heap.size w2 (w2.alloc (.cells #[.int .u32 2, .int .u32 5, .int .u32 6, .int .u32 7] 30)) := (Below.refl _ w2).alloc (Nat.le_refl _) _
  have hrd : Rd1 w2 w2.heap.size v2 (([2, 5, 6, 7] : List Int).map (Value.int .u32)) := Rd1.of_buf hb2
  have HE := Lib.hid (eq_u32 (ys := [2, 5, 6, 7]) (hrd.below hbx (Nat.le_refl _)) (rd_lit w2 30 [.int .u32 2, .int .u32 5, .int .u32 6, .int .u32 7]) (by decide) (by decide))
  rw [decide_eq_true (show ([2, 5, 6, 7] : List Int) = [2, 5, 6, 7] from rfl)] at HE
  have hw2 : Below w1.heap.size w1 (w2.alloc (.cells #[.int .u32 2, .int .u32 5, .int .u32 6, .int .u32 7] 30)) := hl2.trans (hbx.mono hl2.size)
  have H2 := Lib.hid (show RgL (w2.alloc (.cells #[.int .u32 2, .int .u32 5, .int .u32 6, .int .u32 7] 30)) (w2.alloc (.cells #[.int .u32 2, .int .u32 5, .int .u32 6, .int .u32 7] 30)).heap.size v1 (exL.map RB.rng) ∧ Below w.heap.size w (w2.alloc (.cells #[.int .u32 2, .int .u32 5, .int .u32 6, .int .u32 7] 30)) from ⟨(H1.out.1.below hw2 (Nat.le_refl _)).mono hw2.size, H1.out.2.trans (hw2.mono H1.out.2.size)⟩)
  clear hb2 hl2 hbx hrd hw2
  go_wp2_with fail
  refine HE.out.mono ?_
  rintro e w3 ⟨rfl, q3, rfl⟩
  obtain ⟨w3, hw3⟩ : ∃ w3, (w2.alloc (.cells #[.int .u32 2, .int .u32 5, .int .u32 6, .int .u32 7] 30)).drewN q3 = w3 := ⟨_, rfl⟩
  have H3 : Hid (RgL w3 w3.heap.size v1 (exL.map RB.rng) ∧ Below w.heap.size w w3) := Lib.hid (by rw [← hw3]; exact ⟨H2.out.1.below (drewn_below (Below.refl _ _) q3) (Nat.le_refl _), drewn_below H2.out.2 q3⟩)
  rw [hw3]
  clear hw3 H2 HE
  have HN4 := Lib.hid (numbers_any 4 (by decide) exL v1 w3 H3.out.1 (by decide))
  rw [ex_4] at HN4
  go_wp2_with fail
  refine HN4.out.mono ?_
  rintro e w4 ⟨v4, rfl, hb4, hl4⟩
  obtain ⟨A4, c4, rfl⟩ := buf_shape hb4
  have H4 := Lib.hid (H3.out.2.trans (hl4.mono H3.out.2.size))
  have hby : Below w4.heap.size w4 (w4.alloc (.cells #[.int .u32 3, .int .u32 1, .int .u32 2, .int .u32 7] 30)) := (Below.refl _ w4).alloc (Nat.le_refl _) _
  have HO := Lib.hid (of_any [3, 1, 2, 7] (.slice (some ⟨w4.heap.size, 0, none⟩) 4 4) (w4.alloc (.cells #[.int .u32 3, .int .u32 1, .int .u32 2, .int .u32 7] 30)) ((u32_lit w4 30 [3, 1, 2, 7]).mono (by rw [World.size_alloc]; exact Nat.le_refl _)) (by decide) (by decide))
  rw [ex_srt2, ex_grp] at HO
  have H4b := Lib.hid (H4.out.trans (hby.mono H4.out.size))
  clear hb4 hl4 hby
  go_wp2_with fail
  refine HO.out.mono ?_
  rintro e w5 ⟨v5, rfl, hb5, hl5⟩
  have hw5 : Below w.heap.size w w5 := H4b.out.trans (hl5.mono H4b.out.size)
  have HPr := Lib.hid (sprint_any [⟨1, 3⟩, ⟨7, 7⟩] v5 w5 (RgL.of_pairs (L := [⟨1, 3⟩, ⟨7, 7⟩]) rfl hb5) (by decide) (by unfold okR; decide) (HS.out.below hw5))
  rw [ex_str] at HPr
  have H5 := Lib.hid hw5
  clear hb5 hl5 hw5
  go_wp2_with fail
  refine HPr.out.mono ?_
  rintro e w6 ⟨rfl, hl6⟩
  have H6 := Lib.hid (H5.out.trans (hl6.mono H5.out.size))
  clear hl6
  go_wp2_with fail
  go_ret
  exact ⟨by first | rfl | (simp; done), H6.out⟩
end Go.Proofs.YtpcffnhbodjpbaaGreatDoor

namespace Go.Proofs.YtpcffnhbodjpbaaGreatDoor
open Go Go.RowKit Go.Shelf Go.Lib Go.Sort

theorem okR_rb (l : List RB) : okR (l.map RB.rng) := fun r hr => by
  obtain ⟨x, _, rfl⟩ := List.mem_map.1 hr
  have h1 := x.1.isLt
  have h2 := x.2.isLt
  exact ⟨by show x.1.val ≤ _; omega, by show x.2.val ≤ _; omega⟩
theorem RdP.of_rng {W : World} {B : Nat} {v : Value} {l : List Rng} (h : RgL W B v l) : RdP W B v (l.map toP) := by
  obtain ⟨A, cap, rfl, -, h2⟩ := h
  refine ⟨A, cap, by rw [List.length_map], fun h0 => ?_⟩
  rw [List.length_map] at h0
  obtain ⟨b, o, e, h3, h4⟩ := h2 h0
  refine ⟨b, o, e, h3, fun j p hj => ?_⟩
  rw [List.getElem?_map] at hj
  cases hl : l[j]? with
  | none => rw [hl] at hj; cases hj
  | some r =>
    rw [hl] at hj
    injection hj with hj
    subst hj
    exact h4 j r hl
theorem parts_of {l : List Rng} (h0 : l ≠ []) (hr : okR l) : splitOn 44 (ofL (joinC (l.map partL))).data.toList = l.map partL ∧ ∀ (i : Nat) (p : List UInt8) (r : Rng), (l.map partL)[i]? = some p → l[i]? = some r → PartIs p r := by
  refine ⟨?_, fun i p r hp hl => ?_⟩
  · rw [ofL_data]
    exact joinC_split _ (by simpa using h0) (fun p hp => by
      obtain ⟨r, _, rfl⟩ := List.mem_map.1 hp
      exact part_free)
  · rw [List.getElem?_map, hl] at hp
    injection hp with hp
    subst hp
    have := hr r (List.mem_of_getElem? hl)
    exact part_is this.1 this.2
theorem print_len {l : List Rng} (hr : okR l) (hl : l.length ≤ 1000) : (ofL (joinC (l.map partL))).size ≤ 22000 := by
  rw [ofL_size]
  have h1 := joinC_len (l.map partL) 21 (fun x hx => by
    obtain ⟨r, hr2, rfl⟩ := List.mem_map.1 hx
    have := hr r hr2
    exact part_len this.1 this.2)
  rw [List.length_map] at h1
  omega

set_option maxRecDepth 100000 in
set_option maxHeartbeats 3200000 in
theorem inverse_short (A : Option Addr) (n cap : Nat) (w : World) (hn : n = 0 ∨ 60 < n) (hS : Std w) (hM : StdM w) :
    Calls Tryz.prog 3 #[.slice A n cap] w fun e w' => e = .returned (.bool true) ∧ Below w.heap.size w w' := by
  have HA := Lib.hid (alive_any w hS hM)
  have HP : Hid (∀ W, Below w.heap.size w W → Calls Tryz.prog 10 #[.slice none 0 0] W fun e w' => e = .returned (.string ⟨#[]⟩) ∧ Below W.heap.size W w') := Lib.hid (fun W hW => sprint_any [] (.slice none 0 0) W ⟨none, 0, rfl, by simp, fun h => absurd h (by simp)⟩ (by decide) (by intro r hr; cases hr) (hS.below hW))
  have tail : ∀ {Q : Prop}, Q → Q := fun h => h
  clear hS hM tail
  by_cases h60 : n ≤ 60
  · obtain rfl : n = 0 := by omega
    have HF := Lib.hid (few_yes 0 cap A w (by omega))
    clear hn
    go_enter Tryz.func3, Tryz.ntmps3
    go_wp2_with fail
    refine HF.out.mono ?_
    rintro e w1 ⟨rfl, rfl⟩
    go_wp2_with fail
    refine HA.out.mono ?_
    rintro e w2 ⟨rfl, hb2⟩
    have H2 := Lib.hid hb2
    clear hb2
    go_wp2_with fail
    refine (HP.out _ H2.out).mono ?_
    rintro e w3 ⟨rfl, hb3⟩
    have H3 := Lib.hid (H2.out.trans (hb3.mono H2.out.size))
    clear hb3
    go_wp2_with fail
    go_ret
    exact ⟨by first | rfl | (simp; done), H3.out⟩
  · have HF := Lib.hid (few_no n cap A w h60)
    clear hn h60
    go_enter Tryz.func3, Tryz.ntmps3
    go_wp2_with fail
    refine HF.out.mono ?_
    rintro e w1 ⟨rfl, rfl⟩
    go_wp2_with fail
    refine HA.out.mono ?_
    rintro e w2 ⟨rfl, hb2⟩
    have H2 := Lib.hid hb2
    clear hb2
    go_wp2_with fail
    refine (HP.out _ H2.out).mono ?_
    rintro e w3 ⟨rfl, hb3⟩
    have H3 := Lib.hid (H2.out.trans (hb3.mono H2.out.size))
    clear hb3
    go_wp2_with fail
    go_ret
    exact ⟨by first | rfl | (simp; done), H3.out⟩
set_option maxRecDepth 100000 in
set_option maxHeartbeats 3200000 in
theorem seqsetInverse_walk (l : List RB) (v : Value) (w : World) (hR : RgL w w.heap.size v (l.map RB.rng)) (hS : Std w) (hM : StdM w) :
    Calls Tryz.prog 3 #[v] w fun e w' => e = .returned (.bool true) ∧ Below w.heap.size w w' := by
  obtain ⟨A, cap, rfl, -, -⟩ := id hR
  rw [List.length_map] at hR ⊢
  by_cases hs : l.length = 0 ∨ 60 < l.length
  · exact inverse_short A l.length cap w hs hS hM
  obtain ⟨n, hn⟩ : ∃ n, l.length = n := ⟨_, rfl⟩
  rw [hn] at hR hs ⊢
  have hnI : ¬ ((n : Int) = 0) := by omega
  have hnb : ((n : Int) == 0) = false := by rw [beq_eq_false_iff_ne]; omega
  have hlm : (l.map RB.rng).length = n := by rw [List.length_map, hn]
  have hne : l.map RB.rng ≠ [] := fun e => by rw [e] at hlm; simp at hlm; omega
  have hok := okR_rb l
  have HF := Lib.hid (few_yes n cap A w (by omega))
  have HP := Lib.hid (sprint_any (l.map RB.rng) (.slice A n cap) w hR (by omega) hok hS)
  have HRp := Lib.hid (fun W (hb : Below w.heap.size w W) => rprint_any (l.map RB.rng) (.slice A n cap) W ((hR.below hb (Nat.le_refl _)).mono hb.size) (by omega) hok)
  obtain ⟨hp1, hp2⟩ := parts_of hne hok
  have hps := print_len hok (by omega)
  have HQ := Lib.hid (fun W (hb : Below w.heap.size w W) => parse_ok (ofL (joinC ((l.map RB.rng).map partL))) (l.map RB.rng) W (by omega) (hS.below hb) (hM.below hb) (by rw [hp1, List.length_map]) (by rw [hp1]; exact hp2))
  have HA := Lib.hid (fun W (hb : Below w.heap.size w W) => alive_any W (hS.below hb) (hM.below hb))
  have HE := Lib.hid (fun (u : Value) W (hb : Below w.heap.size w W) (hu : RdP W W.heap.size u ((l.map RB.rng).map toP)) => eqr_same hu ((RdP.of_rng hR).below hb (Nat.le_refl _)) (by rw [List.length_map]; omega))
  generalize ofL (joinC ((l.map RB.rng).map partL)) = x at HP HRp HQ
  clear hR hS hM hp1 hp2 hps hok hne hlm hs hn
  go_enter Tryz.func3, Tryz.ntmps3
  go_wp2_with fail
  refine HF.out.mono ?_
  rintro e w1 ⟨rfl, rfl⟩
  go_wp2_with fail
  refine HP.out.mono ?_
  rintro e w2 ⟨rfl, hb2⟩
  have H2 := Lib.hid hb2
  clear hb2
  go_wp2_with fail
  refine (HQ.out _ H2.out).mono ?_
  rintro e w3 ⟨v3, rfl, hB3, hb3⟩
  have H3 := Lib.hid (And.intro (RdP.of_buf hB3) (H2.out.trans (hb3.mono H2.out.size)))
  clear hB3 hb3
  go_wp2_with fail
  refine (HA.out _ H3.out.2).mono ?_
  rintro e w4 ⟨rfl, hb4⟩
  have H4 := Lib.hid (And.intro ((H3.out.1.below hb4 (Nat.le_refl _))) (And.intro (H3.out.2.trans (hb4.mono H3.out.2.size)) hb4.size))
  clear hb4
  go_wp2_with fail
  refine (HRp.out _ H4.out.2.1).mono ?_
  rintro e w5 ⟨rfl, hb5⟩
  have hs5 := hb5.size
  have hu5 : RdP w5 w5.heap.size v3 ((l.map RB.rng).map toP) := by
    obtain ⟨A3, c3, e3, h3⟩ := H4.out.1.below hb5 H4.out.2.2
    exact ⟨A3, c3, e3, fun h0 => by
      obtain ⟨b, o, q1, q2, q3⟩ := h3 h0
      exact ⟨b, o, q1, Nat.lt_of_lt_of_le q2 (Nat.le_trans H4.out.2.2 hs5), q3⟩⟩
  have H5 := Lib.hid (And.intro hu5 (H4.out.2.1.trans (hb5.mono H4.out.2.1.size)))
  clear hb5 hu5 hs5
  go_wp2_with fail
  refine (HE.out v3 _ H5.out.2 H5.out.1).mono ?_
  rintro e w6 ⟨rfl, q6, rfl⟩
  go_wp2_with fail
  go_ret
  exact ⟨by first | rfl | (simp; done), drewn_below H5.out.2 q6⟩

theorem n32_list (ns : List Nat) : ns.map n32 = (ns.map fun n : Nat => (n : Int)).map (Value.int .u32) := by rw [List.map_map]; rfl
set_option maxRecDepth 100000 in
set_option maxHeartbeats 3200000 in
theorem seqsetNumbers_walk (top : Nat) (l : List RB) (v : Value) (w : World) (ht : top < 65536) (hR : RgL w w.heap.size v (l.map RB.rng)) (hS : Std w) (hM : StdM w) :
    Calls Tryz.prog 4 #[.int .u16 top, v] w fun e w' => e = .returned (.bool true) ∧ Below w.heap.size w w' := by
  obtain ⟨A, cap, rfl, -, -⟩ := id hR
  rw [List.length_map] at hR ⊢
  obtain ⟨n, hn⟩ : ∃ n, l.length = n := ⟨_, rfl⟩
  rw [hn] at hR ⊢
  have HA := Lib.hid (fun W (hb : Below w.heap.size w W) => alive_any W (hS.below hb) (hM.below hb))
  by_cases h60 : n ≤ 60
  · have HF := Lib.hid (few_yes n cap A w h60)
    by_cases h300 : 300 < top
    · have h3I : (300 : Int) < top := by omega
      have h3d : decide ((300 : Int) < (top : Int)) = true := decide_eq_true h3I
      clear hR hS hM ht hn h60
      go_enter Tryz.func4, Tryz.ntmps4
      go_wp2_with fail
      refine HF.out.mono ?_
      rintro e w1 ⟨rfl, rfl⟩
      go_wp2_with fail
      refine (HA.out _ (Below.refl _ _)).mono ?_
      rintro e w2 ⟨rfl, hb2⟩
      have H2 := Lib.hid hb2
      clear hb2
      go_wp2_with fail
      go_ret
      exact ⟨rfl, H2.out⟩
    · have h3I : ¬ ((300 : Int) < top) := by omega
      have h3d : decide ((300 : Int) < (top : Int)) = false := decide_eq_false h3I
      have hw : IntKind.u32.wrap (top : Int) = top := by show (top : Int) % 4294967296 = top; omega
      have hlm : (l.map RB.rng).length = n := by rw [List.length_map, hn]
      have HV := Lib.hid (fun W (hb : Below w.heap.size w W) => valid_any top (l.map RB.rng) (.slice A n cap) W ((hR.below hb (Nat.le_refl _)).mono hb.size) (by omega))
      have HW := Lib.hid (fun W (hb : Below w.heap.size w W) => ref_valid top (l.map RB.rng) (.slice A n cap) W ((hR.below hb (Nat.le_refl _)).mono hb.size) (by omega))
      have HN := Lib.hid (fun W (hb : Below w.heap.size w W) => numbers_any top (by omega) l (.slice A n cap) W ((hR.below hb (Nat.le_refl _)).mono hb.size) (by omega))
      have HM := Lib.hid (fun W (hb : Below w.heap.size w W) => ref_numbers top (by omega) (l.map RB.rng) (.slice A n cap) W ((hR.below hb (Nat.le_refl _)).mono hb.size) (by omega))
      have hnl : (numsOf top (l.map RB.rng)).length ≤ 300 := by
        unfold numsOf
        split
        · exact Nat.le_trans (List.length_filter_le _ _) (by rw [nums_len]; omega)
        · simp
      have HL := Lib.hid hnl
      generalize numsOf top (l.map RB.rng) = ns at HN HM HL hnl
      generalize validB top (l.map RB.rng) = vb at HV HW
      clear hR hS hM ht hn h60 h300 hlm hnl
      go_enter Tryz.func4, Tryz.ntmps4
      go_wp2_with fail
      refine HF.out.mono ?_
      rintro e w1 ⟨rfl, rfl⟩
      go_wp2_with fail
      refine (HA.out _ (Below.refl _ _)).mono ?_
      rintro e w2 ⟨rfl, hb2⟩
      have H2 := Lib.hid hb2
      clear hb2
      go_wp2_with fail
      refine (HV.out _ H2.out).mono ?_
      rintro e w3 ⟨rfl, hb3⟩
      have H3 := Lib.hid (H2.out.trans (hb3.mono H2.out.size))
      clear hb3
      go_wp2_with fail
      refine (HW.out _ H3.out).mono ?_
      rintro e w4 ⟨rfl, e4⟩
      have H4 : Hid (Below w.heap.size w w4) := Lib.hid (by rw [e4]; exact H3.out)
      clear e4
      have hbb : (vb == vb) = true := by simp
      go_wp2_with fail
      refine (HN.out _ H4.out).mono ?_
      rintro e w5 ⟨v5, rfl, hB5, hb5⟩
      have H5 := Lib.hid (And.intro (Rd1.of_buf hB5) (H4.out.trans (hb5.mono H4.out.size)))
      clear hB5 hb5
      go_wp2_with fail
      refine (HM.out _ H5.out.2).mono ?_
      rintro e w6 ⟨v6, rfl, hB6, hb6⟩
      have hr5 := H5.out.1.below hb6 (Nat.le_refl _)
      have hr6 := Rd1.of_buf hB6
      rw [n32_list] at hr5 hr6
      have HE := Lib.hid (eq_u32 hr5 hr6 (by rw [List.length_map]; have := HL.out; omega) (by rw [List.length_map]; have := HL.out; omega))
      have H6 := Lib.hid (H5.out.2.trans (hb6.mono H5.out.2.size))
      clear hB6 hb6 hr5 hr6
      go_wp2_with fail
      refine HE.out.mono ?_
      rintro e w7 ⟨rfl, q7, rfl⟩
      simp only [decide_true]
      go_wp2_with fail
      go_ret
      exact ⟨by first | rfl | (simp; done), drewn_below H6.out q7⟩
  · have HF := Lib.hid (few_no n cap A w h60)
    clear hR hS hM ht hn h60
    go_enter Tryz.func4, Tryz.ntmps4
    go_wp2_with fail
    refine HF.out.mono ?_
    rintro e w1 ⟨rfl, rfl⟩
    go_wp2_with fail
    refine (HA.out _ (Below.refl _ _)).mono ?_
    rintro e w2 ⟨rfl, hb2⟩
    have H2 := Lib.hid hb2
    clear hb2
    go_wp2_with fail
    go_ret
    exact ⟨rfl, H2.out⟩
end Go.Proofs.YtpcffnhbodjpbaaGreatDoor
