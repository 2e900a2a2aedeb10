/- The walks of flag.Parse and flag.List. -/
import Derived.Test.YtbbfajjbpalfeaaDoorFlag2
namespace Go.Proofs.YtbbfajjbpalfeaaDoor
open Go.RowKit

def parV (o : Option Nat) : Value := .tuple #[.int .u8 ((o.getD 0 : Nat) : Int), .bool o.isSome]
theorem parV_none : parV none = .tuple #[.int .u8 0, .bool false] := rfl
theorem parV_some (x : Nat) : parV (some x) = .tuple #[.int .u8 (x : Int), .bool true] := rfl
theorem ofL_inj {a b : List UInt8} (h : ofL a = ofL b) : a = b := by rw [← ofL_data a, h, ofL_data]
theorem look_tab (u : List UInt8) : ∀ l : List (List UInt8 × Nat), lookK (l.map fun p => (ofL p.1, Value.int .u8 (p.2 : Int))) (ofL u) = ((l.find? fun p => decide (u = p.1)).map (·.2)).map fun x : Nat => Value.int .u8 (x : Int)
  | [] => rfl
  | p :: l => by
    have ih := look_tab u l
    unfold lookK at ih ⊢
    rw [List.map_cons, List.find?_cons, List.find?_cons]
    by_cases h : u = p.1
    · subst h; simp
    · have h2 : ¬ ofL u = ofL p.1 := fun e => h (ofL_inj e)
      simp only [h, h2, decide_false]
      exact ih
theorem look_flag (wd : List UInt8) : lookK tabK (upS (ofL wd)) = (flagVal wd).map fun x : Nat => Value.int .u8 (x : Int) := look_tab (wd.map upB) flagTab

theorem prefix_not {s : ByteArray} (h : ¬ s.data.toList.head? = some 40) : Lib.hasPrefix s.data.toList [40] = false := by
  generalize s.data.toList = l at h
  cases l with
  | nil => rfl
  | cons x l =>
    have hx : ¬ (40 : UInt8) = x := fun e => h (by rw [e]; rfl)
    simp [Lib.hasPrefix, List.isPrefixOf, hx]
theorem prefix_yes {l : List UInt8} (h : l.head? = some 40) : Lib.hasPrefix l [40] = true ∧ Lib.trimPrefix l [40] = l.tail := by
  cases l with
  | nil => cases h
  | cons x l =>
    injection h with h
    subst h
    simp [Lib.hasPrefix, Lib.trimPrefix, List.isPrefixOf]
theorem suffix_last (l : List UInt8) (c : UInt8) : Lib.hasSuffix l [c] = decide (l.getLast? = some c) := by
  unfold Lib.hasSuffix
  rcases List.eq_nil_or_concat l with rfl | ⟨a, b, rfl⟩
  · rfl
  · rw [List.concat_eq_append, Bool.eq_iff_iff, decide_eq_true_eq, List.isSuffixOf_iff_suffix, List.getLast?_append]
    simp only [List.getLast?_singleton, Option.some_or, Option.some.injEq]
    constructor
    · intro h
      obtain ⟨t, ht⟩ := h
      exact (List.append_inj_right' ht rfl |> fun e => by injection e with e; exact e.symm)
    · rintro rfl
      exact ⟨a, rfl⟩
theorem trim_last {l : List UInt8} {c : UInt8} (h : l.getLast? = some c) : Lib.trimSuffix l [c] = l.dropLast := by
  unfold Lib.trimSuffix
  rw [suffix_last, decide_eq_true h]
  simp [List.dropLast_eq_take]
theorem cutP (s : ByteArray) (w : World) : ∃ t b, (b = decide (s.data.toList.head? = some 40)) ∧ (b = true → t = s.data.toList.tail) ∧ t.length ≤ s.size ∧
    Calls Tryd.prog 20 #[.string s, .string ⟨#[40]⟩] w fun e w' => e = .returned (.tuple #[.string (ofL t), .bool b]) ∧ w = w' := by
  refine ⟨_, _, ?_, ?_, ?_, (Tryd.strings_CutPrefix s ⟨#[40]⟩ w).mono fun e w' h => ⟨h.1, h.2.symm⟩⟩
  · by_cases h : s.data.toList.head? = some 40
    · rw [decide_eq_true h]; exact (prefix_yes h).1
    · rw [decide_eq_false h]; exact prefix_not h
  · intro hb
    have h : s.data.toList.head? = some 40 := by
      refine Decidable.byContradiction fun h => ?_
      have := prefix_not h
      rw [show Lib.hasPrefix s.data.toList (ByteArray.mk #[40]).data.toList = Lib.hasPrefix s.data.toList [40] from rfl, this] at hb
      cases hb
    exact (prefix_yes h).2
  · unfold Lib.trimPrefix
    split
    · rw [List.length_drop, Array.length_toList]; exact Nat.sub_le _ _
    · rw [Array.length_toList]; exact Nat.le_refl _
theorem cutS (t : List UInt8) (w : World) (ht : t.length ≤ 1048576) : Calls Tryd.prog 21 #[.string (ofL t), .string ⟨#[41]⟩] w fun e w' =>
    e = .returned (.tuple #[.string (ofL (if t.getLast? = some 41 then t.dropLast else t)), .bool (decide (t.getLast? = some 41))]) ∧ w = w' := by
  refine (Tryd.strings_CutSuffix (ofL t) ⟨#[41]⟩ w (by show t.toArray.size ≤ _; rw [List.size_toArray]; omega)).mono ?_
  rintro e w' ⟨rfl, rfl⟩
  refine ⟨?_, rfl⟩
  rw [ofL_data, show (ByteArray.mk #[41]).data.toList = [41] from rfl, suffix_last]
  by_cases h : t.getLast? = some 41
  · rw [if_pos h, trim_last h]; rfl
  · rw [if_neg h]
    have : Lib.trimSuffix t [41] = t := by
      unfold Lib.trimSuffix
      rw [suffix_last, decide_eq_false h]; rfl
    rw [this]; rfl

/-- strings.Split at one byte. -/
theorem split_at (c : UInt8) (s : ByteArray) (w : World) (hS : StdA w) (hs : s.size ≤ 1048576) :
    Calls Tryd.prog 23 #[.string s, .string ⟨#[c]⟩] w fun e w' => e = .returned (.slice (some ⟨w.heap.size, 0, none⟩) (splitOn c s.data.toList).length (splitOn c s.data.toList).length) ∧
      Blk w' w.heap.size 9 (strsV (splitOn c s.data.toList)) ∧ Below w.heap.size w w' := by
  obtain ⟨m, hm⟩ := hS.mx
  refine (Tryd.strings_Split s ⟨#[c]⟩ m w (by omega) hm (by show 1 ≤ (1 : Nat); omega)).mono ?_
  rintro e w' ⟨rfl, rfl⟩
  rw [splitOn_count, splitB_one, List.map_map]
  exact ⟨rfl, Blk.made _ _ _, (Below.refl _ _).alloc (Nat.le_refl _) _⟩
theorem splitOn_len (c : UInt8) : ∀ l : List UInt8, (splitOn c l).length ≤ l.length + 1
  | [] => by simp [splitOn]
  | x :: l => by
    have ih := splitOn_len c l
    unfold splitOn
    split
    · simp only [List.length_cons]; omega
    · split
      · simp
      · rename_i h t e
        rw [e] at ih
        simp only [List.length_cons] at ih ⊢; omega
theorem splitOn_piece (c : UInt8) : ∀ (l : List UInt8), ∀ p ∈ splitOn c l, p.length ≤ l.length
  | [], p, hp => by simp [splitOn] at hp; subst hp; simp
  | x :: l, p, hp => by
    have ih := splitOn_piece c l
    unfold splitOn at hp
    split at hp
    · rcases List.mem_cons.1 hp with rfl | h
      · simp
      · exact Nat.le_succ_of_le (ih p h)
    · split at hp
      · obtain rfl := List.mem_singleton.1 hp; simp
      · rename_i h t e
        rcases List.mem_cons.1 hp with rfl | h2
        · have := ih h (by rw [e]; simp)
          simp only [List.length_cons]; omega
        · exact Nat.le_succ_of_le (ih p (by rw [e]; exact List.mem_cons_of_mem _ h2))
theorem ofL_size (l : List UInt8) : (ofL l).size = l.length := by show l.toArray.size = _; rw [List.size_toArray]
theorem zeroFl (w : World) : (zeroValue 22).run Tryd.prog w = .ok (.int .u8 0) w := by kernel_rfl

set_option maxRecDepth 100000 in
set_option maxHeartbeats 1600000 in
theorem parse_any (s : ByteArray) (w : World) (hS : StdA w) (hs : s.size ≤ 1048576) :
    Calls Tryd.prog 13 #[.string s] w fun e w' => e = .returned (parV (parseF s.data.toList)) ∧ Below w.heap.size w w' := by
  obtain ⟨t, b, hb, ht, htl, HP⟩ := cutP s w
  have HP := Lib.hid HP
  have HS := Lib.hid (cutS t w (by omega))
  by_cases h1 : s.data.toList.head? = some 40
  · obtain rfl : b = true := by rw [hb]; exact decide_eq_true h1
    obtain rfl := ht rfl
    by_cases h2 : s.data.toList.tail.getLast? = some 41
    · rw [if_pos h2, decide_eq_true h2] at HS
      have R0 : parseF s.data.toList = if s.data.toList.tail.dropLast = [] then some 0 else foldF (splitOn 32 s.data.toList.tail.dropLast) 0 := by unfold parseF; rw [if_pos ⟨h1, h2⟩]
      have hil : s.data.toList.tail.dropLast.length ≤ 1048576 := by rw [List.length_dropLast]; omega
      generalize s.data.toList.tail.dropLast = inn at R0 HS hil
      generalize s.data.toList.tail = t at HP HS
      rw [R0]
      clear hb ht htl h1 h2 R0
      by_cases h3 : inn = []
      · subst h3
        rw [if_pos rfl, parV_some]
        clear hS
        go_enter Tryd.func13, Tryd.ntmps13
        go_wp2_with fail
        refine HP.out.mono ?_
        rintro e w1 ⟨rfl, rfl⟩
        go_wp2_with fail
        refine HS.out.mono ?_
        rintro e w2 ⟨rfl, rfl⟩
        rw [show ofL [] = ⟨#[]⟩ from rfl]
        go_wp2_with fail
        go_ret2
        exact ⟨rfl, Below.refl _ _⟩
      · rw [if_neg h3]
        have HB := Lib.hid (byName_any w hS)
        have HSS := Lib.hid hS
        have e1 : ¬ (ofL inn).toList = [] := by rw [ByteArray.toList_eq, ofL_data]; exact h3
        have e2 : (ofL inn).toList.isEmpty = false := by rw [ByteArray.toList_eq, ofL_data]; cases inn with | nil => exact absurd rfl h3 | cons _ _ => rfl
        have e3 : inn.isEmpty = false := by cases inn with | nil => exact absurd rfl h3 | cons _ _ => rfl
        obtain ⟨r, hr⟩ : ∃ r, foldF (splitOn 32 inn) 0 = r := ⟨_, rfl⟩
        rw [hr]
        have HR0 := Lib.hid hr
        clear h3 hS hr
        go_enter Tryd.func13, Tryd.ntmps13
        go_wp2_with fail
        refine HP.out.mono ?_
        rintro e w1 ⟨rfl, rfl⟩
        go_wp2_with fail
        refine HS.out.mono ?_
        rintro e w2 ⟨rfl, rfl⟩
        go_wp2_with fail
        refine HB.out.mono ?_
        rintro e w3 ⟨b, rfl, hbw, hm, hb3⟩
        have hS3 := HSS.out.below hb3
        have HSP := Lib.hid (split_at 32 (ofL inn) w3 hS3 (by rw [ofL_size]; exact hil))
        rw [ofL_data] at HSP
        have H4 := Lib.hid (And.intro hm hb3)
        clear hm hb3 hS3
        go_wp2_with fail
        refine HSP.out.mono ?_
        rintro e w4 ⟨rfl, hblk, hb4⟩
        have hL := splitOn_len 32 inn
        have hP := Lib.hid (splitOn_piece 32 inn)
        have hr := HR0.out
        clear HR0
        generalize splitOn 32 inn = L at hblk hL hP hr ⊢
        obtain ⟨hm, hb3⟩ := H4.out
        have hm4 := hm.below hb4 hm.lt
        have hbw4 : Below w.heap.size w w4 := hb3.trans (hb4.mono hb3.size)
        have hbl : b ≠ w3.heap.size := by have := hm.lt; omega
        have hg := hb3.size
        generalize w3.heap.size = g at hblk hbl hg ⊢
        have H5 := Lib.hid (And.intro hm4 (And.intro hbw4 (And.intro hblk hr)))
        clear hm hb3 hb4 hm4 hbw4 hblk hr H4 HB HP HS HSP e1 e2 e3
        go_wp2_with fail
        go_loopw [7, 35] (fun out i wr => ∃ k x : Nat, k ≤ L.length ∧ i = .int .i64 k ∧ out = .int .u8 x ∧ x < 32 ∧ foldF (L.drop k) x = r ∧ KMap wr b Value.string tabK ∧ Blk wr g 9 (strsV L) ∧ Below w.heap.size w wr) (fun _ i _ => L.length - (intOf i).toNat)
        case atStart => exact ⟨0, 0, Nat.zero_le _, rfl, rfl, by omega, H5.out.2.2.2, H5.out.1, H5.out.2.2.1, H5.out.2.1⟩
        case round =>
          obtain ⟨k, x, hk, rfl, rfl, hx, hf, hm, hblk, hbw⟩ := hrel
          by_cases hlt : k < L.length
          · have hck : wr.cell? ⟨g, k, none⟩ = some (.string (ofL L[k])) := by rw [hblk.cell, strsV_at _ _ hlt]
            rw [List.drop_eq_getElem_cons hlt, foldF] at hf
            have hpl := hP.out _ (List.getElem_mem hlt)
            generalize L[k] = wd at hck hf hpl
            have HU := Lib.hid (upper_upS (ofL wd) wr (by rw [ofL_size]; unfold maxLen; omega))
            have HM := Lib.hid (And.intro hm (And.intro hblk hbw))
            have HF := Lib.hid hf
            clear hf hm hblk hbw hpl
            go_wp2_with fail
            refine HU.out.mono ?_
            rintro e w5 ⟨rfl, hb5⟩
            obtain ⟨hm, hblk, hbw⟩ := HM.out
            have hm5 := hm.below hb5 hm.lt
            have hlk := hm5.look (Kp.str Tryd.underlying9) Tryd.underlying41 (zeroFl w5) (upS (ofL wd))
            rw [look_flag] at hlk
            have H6 := Lib.hid (And.intro hm5 (And.intro (hblk.below hb5 hblk.lt) (hbw.trans (hb5.mono hbw.size))))
            clear hb5 hm hblk hbw hm5
            cases hfv : flagVal wd with
            | none =>
              rw [hfv] at hlk
              have HR := Lib.hid hlk
              have R : Hid (r = none) := Lib.hid (by have := HF.out; rw [hfv] at this; exact this.symm)
              clear hlk hfv
              go_wp2_with (at_lookup; refine wpList_lookup_run rfl _ _ _ _ rfl _ _ _ rfl rfl _ HR.out ?_)
              go_ret2
              rw [R.out]
              exact ⟨rfl, H6.out.2.2⟩
            | some v =>
              rw [hfv] at hlk
              have HR := Lib.hid hlk
              have hv := flagVal_lt hfv
              have hor := or_bits x v hx hv.1
              have HF2 : Hid (foldF (L.drop (k + 1)) (x ||| v) = r) := Lib.hid (by have := HF.out; rw [hfv] at this; exact this)
              have hor1 := hor.1
              have hor3 := hor.2.2
              clear hlk hfv hor hv
              generalize x ||| v = y at hor1 hor3 HF2
              go_wp2_with (at_lookup; refine wpList_lookup_run rfl _ _ _ _ rfl _ _ _ rfl rfl _ HR.out ?_)
              go_roundw
              case rel => exact ⟨k + 1, y, by omega, by go_num, rfl, hor3, HF2.out, H6.out.1, H6.out.2.1, H6.out.2.2⟩
              case measure => simp [intOf]; omega
          · obtain rfl : k = L.length := by omega
            rw [List.drop_length, foldF] at hf
            have R := Lib.hid hf
            have HB := Lib.hid hbw
            clear hf hm hblk hbw
            go_wp2_with fail
            go_ret2
            rw [← R.out]
            exact ⟨rfl, HB.out⟩
    · rw [if_neg h2, decide_eq_false h2] at HS
      have R : parseF s.data.toList = none := by unfold parseF; rw [if_neg (fun h => h2 h.2)]
      rw [R, parV_none]
      clear R hS hb ht htl h2 h1
      go_enter Tryd.func13, Tryd.ntmps13
      go_wp2_with fail
      refine HP.out.mono ?_
      rintro e w1 ⟨rfl, rfl⟩
      go_wp2_with fail
      refine HS.out.mono ?_
      rintro e w2 ⟨rfl, rfl⟩
      go_wp2_with fail
      go_ret2
      exact ⟨rfl, Below.refl _ _⟩
  · obtain rfl : b = false := by rw [hb]; exact decide_eq_false h1
    have R : parseF s.data.toList = none := by unfold parseF; rw [if_neg (fun h => h1 h.1)]
    rw [R, parV_none]
    clear R hS hb ht htl h1
    go_enter Tryd.func13, Tryd.ntmps13
    go_wp2_with fail
    refine HP.out.mono ?_
    rintro e w1 ⟨rfl, rfl⟩
    go_wp2_with fail
    refine HS.out.mono ?_
    rintro e w2 ⟨rfl, rfl⟩
    go_wp2_with fail
    all_goals
      go_ret2
      exact ⟨rfl, Below.refl _ _⟩

theorem infoStr : (Tryd.prog.info? 9).map (fun i => (i.zero, i.size, i.bytes)) = some (some (.string ByteArray.empty), 1, 16) := by kernel_rfl
def stV (l : List (List UInt8)) : List Value := l.map fun x => Value.string (ofL x)
theorem stV_one (l : List (List UInt8)) : ∀ u ∈ stV l, u.oneCell' = true := by
  intro u hu
  obtain ⟨x, _, rfl⟩ := List.mem_map.1 hu
  rfl
theorem join_eq : ∀ L : List (List UInt8), Lib.join L [32] = joinF L
  | [] => rfl
  | [a] => Lib.join_one a [32]
  | a :: b :: r => by
    have ih := join_eq (b :: r)
    unfold joinF
    rw [← ih]
    simp [Lib.join, List.intercalate, List.intersperse]
theorem joinF_len : ∀ (L : List (List UInt8)) (c : Nat), (∀ x ∈ L, x.length ≤ c) → (joinF L).length ≤ L.length * (c + 1)
  | [], _, _ => by simp [joinF]
  | [a], c, h => by
    have := h a (by simp)
    simp only [joinF, List.length_cons, List.length_nil]; omega
  | a :: b :: r, c, h => by
    have ih := joinF_len (b :: r) c (fun x hx => h x (List.mem_cons_of_mem _ hx))
    have := h a (by simp)
    unfold joinF
    rw [List.length_append, List.length_cons]
    rw [show (a :: b :: r).length = (b :: r).length + 1 from rfl, Nat.add_mul]
    omega
/-- strings.Join with blanks of a slice of the call's own. -/
theorem join_buf (v : Value) (L : List (List UInt8)) (w : World) (base : Nat) (h : Buf w base 1 v L.length (stV L)) (hl : (joinF L).length ≤ 1048576) (hL : L.length ≤ 1048576) :
    Calls Tryd.prog 26 #[v, .string ⟨#[32]⟩] w fun e w' => e = .returned (.string (ofL (joinF L))) ∧ Below w.heap.size w w' := by
  cases L with
  | nil =>
    obtain ⟨A, c, rfl, _⟩ := h.src (stV_one _)
    refine (Tryd.strings_Join_none A c ⟨#[32]⟩ w).mono ?_
    rintro e w' ⟨rfl, rfl⟩
    exact ⟨rfl, Below.refl _ _⟩
  | cons a r =>
    obtain ⟨g, off, cap, rfl, hg, hlt, hnc, hc⟩ := h.at (by simp)
    have e1 : ((a :: r).map ofL).map (·.data.toList) = a :: r := by
      rw [List.map_map]
      conv => rhs; rw [← List.map_id (a :: r)]
      exact List.map_congr_left fun x _ => ofL_data x
    have hj := Tryd.strings_Join g off cap ((a :: r).map ofL) ⟨#[32]⟩ w (fun j x hx => hc j _ (by
        unfold stV
        rw [List.getElem?_map] at hx ⊢
        cases hq : (a :: r)[j]? with
        | none => rw [hq] at hx; cases hx
        | some y => rw [hq] at hx; injection hx with hx; subst hx; rfl)) hlt (by rw [List.length_map]; omega) (by rw [List.length_map]; exact hnc)
        (by rw [e1]; show (Lib.join (a :: r) [32]).length ≤ _; rw [join_eq]; omega)
    rw [e1, List.length_map] at hj
    rw [show (ByteArray.mk #[32]).data.toList = [32] from rfl, join_eq] at hj
    exact hj
theorem fname_len (f : Nat) : (fname f).length ≤ 9 := by
  unfold fname
  split
  · decide
  · split
    · decide
    · split
      · decide
      · split
        · decide
        · split
          · decide
          · simp
theorem eachL_lt (f : Nat) (hf : f < 256) : (eachL f).length ≤ 5 ∧ ∀ x ∈ eachL f, x < 256 := by
  refine ⟨eachTo_le f 5, fun x hx => ?_⟩
  have h : ∀ f : Fin 256, ∀ x ∈ eachL f.val, x < 256 := by decide +kernel
  exact h ⟨f, hf⟩ x hx

theorem ofL_append (a b : List UInt8) : ofL a ++ ofL b = ofL (a ++ b) := ba_ext (by rw [ofL_data, ByteArray.data_append, Array.toList_append, ofL_data, ofL_data])
theorem paren (l : List UInt8) : (⟨#[40]⟩ ++ ofL l : ByteArray) ++ ⟨#[41]⟩ = ofL (40 :: (l ++ [41])) := by
  rw [show (⟨#[40]⟩ : ByteArray) = ofL [40] from rfl, show (⟨#[41]⟩ : ByteArray) = ofL [41] from rfl, ofL_append, ofL_append]; rfl

set_option maxRecDepth 100000 in
set_option maxHeartbeats 1600000 in
theorem list_any (f : Nat) (hf : f < 256) (w : World) (hS : StdA w) :
    Calls Tryd.prog 15 #[.int .u8 f] w fun e w' => e = .returned (.string (ofL (listF f))) ∧ Below w.heap.size w w' := by
  have HE := Lib.hid (each_any f hf w)
  have HS := Lib.hid hS
  have hE := eachL_lt f hf
  have HFL := Lib.hid (show listF f = 40 :: (joinF ((eachL f).map fname) ++ [41]) from rfl)
  generalize listF f = res at HFL ⊢
  generalize eachL f = L at HE hE HFL
  obtain ⟨hl5, hL⟩ := hE
  have HL := Lib.hid hL
  clear hS hL hf
  go_enter Tryd.func15, Tryd.ntmps15
  go_wp2_with fail
  refine HE.out.mono ?_
  rintro e w1 ⟨v, rfl, hbuf, hb1⟩
  obtain ⟨A, cap, rfl, -⟩ := hbuf.src (flV_one _)
  have HC := Lib.hid (show ∀ k (hk : k < L.length), ∃ g off, A = some ⟨g, off, none⟩ ∧ w1.cell? ⟨g, off + k, none⟩ = some (.int .u8 (L[k] : Int)) ∧ g < w1.heap.size from fun k hk => by
    obtain ⟨g, off, c2, e, _, hlt, _, hc⟩ := hbuf.at (by omega)
    injection e with e1 e2 e3
    exact ⟨g, off, e1, hc k _ (by simp [flV, hk]), hlt⟩)
  have HB1 := Lib.hid hb1
  clear hbuf hb1 HE
  go_wp2_with fail
  go_loopw [3, 9] (fun out i wr => ∃ k : Nat, k ≤ L.length ∧ i = .int .i64 k ∧ Buf wr w1.heap.size 1 out k (stV ((L.take k).map fname)) ∧ Below w1.heap.size w1 wr) (fun _ i _ => L.length - (intOf i).toNat)
  case atStart => exact ⟨0, Nat.zero_le _, rfl, Buf.nil _ _ _, Below.refl _ _⟩
  case round =>
    obtain ⟨k, hk, rfl, hbuf, hbb⟩ := hrel
    by_cases hlt : k < L.length
    · obtain ⟨g, off, rfl, hck, hbk⟩ := HC.out k hlt
      have hck2 : wr.cell? ⟨g, off + k, none⟩ = some (.int .u8 (L[k] : Int)) := by rw [hbb.cell (p := ⟨g, off + k, none⟩) hbk]; exact hck
      have hx := HL.out _ (List.getElem_mem hlt)
      have HT := Lib.hid (show (L.take (k + 1)).map fname = (L.take k).map fname ++ [fname L[k]] by rw [List.take_succ_eq_append_getElem hlt, List.map_append]; rfl)
      generalize L[k] = x at hck2 hx HT
      have HN := Lib.hid (name_any x hx wr (HS.out.below (HB1.out.trans (hbb.mono HB1.out.size))))
      have HM := Lib.hid (And.intro hbuf hbb)
      clear hck hbk hbuf hbb hx
      go_wp2_with fail
      refine HN.out.mono ?_
      rintro e w2 ⟨rfl, hb2⟩
      obtain ⟨hbuf, hbb⟩ := HM.out
      have hbuf2 := hbuf.below hb2 (Nat.le_refl _)
      have hbw2 := hbb.trans (hb2.mono hbb.size)
      obtain ⟨i0, hi, hz0, hz1, hz2⟩ := info_parts infoStr
      obtain ⟨v', w', hrun, hbuf', hb'⟩ := buf_app1 Tryd.underlying37 hi hz0 hz1 hz2 rfl (by decide) hbuf2 hbw2 (.string (ofL (fname x))) rfl (by omega) 9
      obtain ⟨A1, cap1, rfl, -⟩ := hbuf2.src (stV_one _)
      have e9 : stV ((L.take k).map fname) ++ [.string (ofL (fname x))] = stV ((L.take (k + 1)).map fname) := by rw [HT.out]; unfold stV; rw [List.map_append]; rfl
      rw [e9] at hbuf'
      obtain ⟨A2, cap2, rfl, -⟩ := hbuf'.src (stV_one _)
      have HR := Lib.hid hrun
      have H2 := Lib.hid (And.intro hbuf' hb')
      clear hbuf hbb hb2 hbuf2 hbw2 hrun hbuf' hb' e9 hi hz0 hz1 hz2
      go_wp2_with (at_builtin; refine wpList_append_run _ rfl (.tmp 13) (.tmp 16) _ _ rfl _ _ rfl rfl _ _ HR.out ?_)
      go_roundw
      case rel => exact ⟨k + 1, by omega, by go_num, H2.out.1, H2.out.2⟩
      case measure => simp [intOf]; omega
    · obtain rfl : k = L.length := by omega
      have hjl := joinF_len (L.map fname) 9 (fun x hx => by
        obtain ⟨y, _, rfl⟩ := List.mem_map.1 hx
        exact fname_len y)
      rw [List.length_map] at hjl
      rw [List.take_length] at hbuf
      have HJ := Lib.hid (join_buf _ (L.map fname) wr w1.heap.size (by rw [List.length_map]; exact hbuf) (by omega) (by rw [List.length_map]; omega))
      obtain ⟨A1, cap1, rfl, -⟩ := hbuf.src (stV_one _)
      have HB := Lib.hid (HB1.out.trans (hbb.mono HB1.out.size))
      have hjl2 : (joinF (L.map fname)).length ≤ 50 := by omega
      have HJL := HFL.out
      generalize joinF (L.map fname) = jn at HJ hjl2 HJL
      have hjs : (ofL jn).size ≤ 50 := by rw [ofL_size]; exact hjl2
      have HFL2 := Lib.hid HJL
      clear hbuf hbb hjl HJL
      go_wp2_with fail
      refine HJ.out.mono ?_
      rintro e w2 ⟨rfl, hb2⟩
      have H2 := Lib.hid (HB.out.trans (hb2.mono HB.out.size))
      clear hb2
      go_wp2_with fail
      go_ret
      exact ⟨by rw [HFL2.out, ← paren]; rfl, H2.out⟩
end Go.Proofs.YtbbfajjbpalfeaaDoor
