/- The walks of flag.Name and flag.byName. · The walks of flag.Parse and flag.List. · The walks of the forms' functions: number, text. · The walks of the forms' functions: number, text, the list of flags, tagged; and of what makes them. · Plain lemmas: only one block of the old memory turns. · The walks of the items' functions, and of what lists them. · What is collected while fetched's words are written. · A result that is a response in memory. -/
import Derived.Test.YtgdhakkfddmkjaaDoorJ5
import Derived.Test.YtgdhakkfddmkjaaDoorJ3
import Derived.Test.YtgdhakkfddmkjaaDoorShelf
import Derived.Deep.RegionWith
import Derived.Laws.EntriesVeiled
import Derived.Test.YtgdhakkfddmkjaaDoorJ0
import Derived.Test.YtgdhakkfddmkjaaDoorLawForms
import Derived.Laws.ResultCell
set_option linter.unusedVariables false
set_option linter.unusedSimpArgs false
namespace Go.Proofs.YtgdhakkfddmkjaaDoor
open Go.RowKit

theorem fname_pow (k : Nat) (hk : k < 5) : fname (2 ^ k) = fnames.getD k [] := by
  have h : ∀ k : Fin 5, fname (2 ^ k.val) = fnames.getD k.val [] := by decide
  exact h ⟨k, hk⟩
theorem fname_none (f : Nat) (h : ∀ j, j < 5 → f ≠ 2 ^ j) : fname f = [] := by
  unfold fname
  rw [if_neg (h 0 (by omega)), if_neg (h 1 (by omega)), if_neg (h 2 (by omega)), if_neg (h 3 (by omega)), if_neg (h 4 (by omega))]

set_option maxRecDepth 100000 in
set_option maxHeartbeats 800000 in
theorem name_any (f : Nat) (hf : f < 256) (w : World) (hS : StdA w) :
    Calls Tryd.prog 64 #[.int .u8 f] w fun e w' => e = .returned (.string (ofL (fname f))) ∧ Below w.heap.size w w' := by
  have HF := Lib.hid (fields_at ⟨#[92, 65, 110, 115, 119, 101, 114, 101, 100, 32, 92, 70, 108, 97, 103, 103, 101, 100, 32, 92, 68, 101, 108, 101, 116, 101, 100, 32, 92, 83, 101, 101, 110, 32, 92, 68, 114, 97, 102, 116]⟩ fnames w hS (by decide) (by decide) (by decide +kernel))
  clear hS
  go_enter Tryd.func64, Tryd.ntmps64
  go_wp2_with fail
  refine HF.out.mono ?_
  rintro e w1 ⟨rfl, hblk, hb⟩
  have HB := Lib.hid hb
  have HC := Lib.hid (fun k (hk : k < 5) => (show w1.cell? ⟨w.heap.size, k, none⟩ = some (.string (ofL (fnames.getD k []))) by
    rw [hblk.cell, strsV_at _ _ (show k < fnames.length from hk)]
    rw [List.getD_eq_getElem?_getD, List.getElem?_eq_getElem (show k < fnames.length from hk)]; rfl))
  clear hblk hb HF
  rw [show fnames.length = 5 from rfl]
  go_wp2_with fail
  go_loop [7] (fun i => ∃ k : Nat, k ≤ 5 ∧ i = .int .i64 k ∧ ∀ j, j < k → f ≠ 2 ^ j) (fun i => 5 - (intOf i).toNat)
  case atStart => exact ⟨0, by omega, rfl, fun j hj => absurd hj (by omega)⟩
  case round =>
    obtain ⟨k, hk, rfl, hno⟩ := hrel
    have HNO := Lib.hid hno
    clear hno
    by_cases hlt : k < 5
    · have hc := HC.out k hlt
      have h2 : (2 ^ k : Nat) < 256 := by
        have : ∀ k : Fin 5, (2 ^ k.val : Nat) < 256 := by decide
        exact this ⟨k, hlt⟩
      have e2 : (2 ^ k % 256 : Int) = ((2 ^ k : Nat) : Int) := by
        rw [Int.emod_eq_of_lt (by exact_mod_cast Nat.zero_le _) (by exact_mod_cast h2)]; push_cast; rfl
      by_cases hfk : f = 2 ^ k
      · have R := Lib.hid (show fname f = fnames.getD k [] by rw [hfk]; exact fname_pow k hlt)
        have hd : ((f : Int) == 2 ^ k % 256) = true := by rw [beq_iff_eq, e2, hfk]
        clear e2 hfk h2
        generalize fnames.getD k [] = nm at hc R
        go_wp2_with fail
        go_ret
        exact ⟨by rw [R.out]; rfl, HB.out⟩
      · have hd : ((f : Int) == 2 ^ k % 256) = false := by rw [beq_eq_false_iff_ne, e2]; exact fun e => hfk (by exact_mod_cast e)
        have HFK := Lib.hid hfk
        clear e2 hfk h2
        generalize fnames.getD k [] = nm at hc
        go_wp2_with fail
        go_round
        case rel => exact ⟨k + 1, by omega, by go_num, fun j hj => by
          rcases Nat.lt_or_ge j k with h | h
          · exact HNO.out j h
          · obtain rfl : j = k := by omega
            exact HFK.out⟩
        case measure => simp [intOf]; omega
    · obtain rfl : k = 5 := by omega
      have R := Lib.hid (fname_none f HNO.out)
      go_wp2_with fail
      go_ret
      exact ⟨by rw [R.out]; rfl, HB.out⟩

/-- The map that byName makes. -/
def tabK : List (ByteArray × Value) := flagTab.map fun p => (ofL p.1, Value.int .u8 (p.2 : Int))
theorem tabK_next (k : Nat) (hk : k < 5) : tabK.take (k + 1) = tabK.take k ++ [(upS (ofL (fname (2 ^ k))), .int .u8 ((2 ^ k : Nat) : Int))] := by
  have h : ∀ k : Fin 5, tabK.take (k.val + 1) = tabK.take k.val ++ [(upS (ofL (fname (2 ^ k.val))), .int .u8 ((2 ^ k.val : Nat) : Int))] := by
    intro k
    match k with
    | 0 => rfl
    | 1 => rfl
    | 2 => rfl
    | 3 => rfl
    | 4 => rfl
  exact h ⟨k, hk⟩
theorem tabK_new (k : Nat) (hk : k < 5) : lookK (tabK.take k) (upS (ofL (fname (2 ^ k)))) = none := by
  have h : ∀ k : Fin 5, (lookK (tabK.take k.val) (upS (ofL (fname (2 ^ k.val))))).isNone = true := by decide +kernel
  exact Option.isNone_iff_eq_none.1 (h ⟨k, hk⟩)
theorem each31 : eachL 31 = [1, 2, 4, 8, 16] := by decide
theorem each31_at (k : Nat) (hk : k < 5) : (flV (eachL 31))[k]? = some (.int .u8 ((2 ^ k : Nat) : Int)) := by
  have h : ∀ k : Fin 5, (flV (eachL 31))[k.val]? = some (.int .u8 ((2 ^ k.val : Nat) : Int)) := by
    intro k
    match k with
    | 0 => rfl
    | 1 => rfl
    | 2 => rfl
    | 3 => rfl
    | 4 => rfl
  exact h ⟨k, hk⟩
/-- What a slice of the call's own reads as. -/
theorem Buf.at {w : World} {base n : Nat} {v : Value} {xs : List Value} (h : Buf w base 1 v n xs) (h0 : 0 < n) : ∃ g off cap, v = .slice (some ⟨g, off, none⟩) n cap ∧ base ≤ g ∧ g < w.heap.size ∧ n ≤ cap ∧ ∀ j u, xs[j]? = some u → w.cell? ⟨g, off + j, none⟩ = some u := by
  rcases h.2 with ⟨_, h2⟩ | ⟨g, off, cap, rfl, hg, hlt, hnc, hc, _⟩
  · omega
  · exact ⟨g, off, cap, rfl, hg, hlt, hnc, hc⟩

end Go.Proofs.YtgdhakkfddmkjaaDoor
namespace Go.Proofs.YtgdhakkfddmkjaaDoor
open Go.RowKit

def parV (o : Option Nat) : Value := .tuple #[.int .u8 ((o.getD 0 : Nat) : Int), .bool o.isSome]
theorem parV_none : parV none = .tuple #[.int .u8 0, .bool false] := rfl
theorem parV_some (x : Nat) : parV (some x) = .tuple #[.int .u8 (x : Int), .bool true] := rfl
theorem ofL_inj {a b : List UInt8} (h : ofL a = ofL b) : a = b := by rw [← ofL_data a, h, ofL_data]
theorem look_tab (u : List UInt8) : ∀ l : List (List UInt8 × Nat), lookK (l.map fun p => (ofL p.1, Value.int .u8 (p.2 : Int))) (ofL u) = ((l.find? fun p => decide (u = p.1)).map (·.2)).map fun x : Nat => Value.int .u8 (x : Int)
  | [] => rfl
  | p :: l => by
    have ih := look_tab u l
    unfold lookK at ih ⊢
    rw [List.map_cons, List.find?_cons, List.find?_cons]
    by_cases h : u = p.1
    · subst h; simp
    · have h2 : ¬ ofL u = ofL p.1 := fun e => h (ofL_inj e)
      simp only [h, h2, decide_false]
      exact ih
theorem look_flag (wd : List UInt8) : lookK tabK (upS (ofL wd)) = (flagVal wd).map fun x : Nat => Value.int .u8 (x : Int) := look_tab (wd.map upB) flagTab

theorem prefix_not {s : ByteArray} (h : ¬ s.data.toList.head? = some 40) : Lib.hasPrefix s.data.toList [40] = false := by
  generalize s.data.toList = l at h
  cases l with
  | nil => rfl
  | cons x l =>
    have hx : ¬ (40 : UInt8) = x := fun e => h (by rw [e]; rfl)
    simp [Lib.hasPrefix, List.isPrefixOf, hx]
theorem prefix_yes {l : List UInt8} (h : l.head? = some 40) : Lib.hasPrefix l [40] = true ∧ Lib.trimPrefix l [40] = l.tail := by
  cases l with
  | nil => cases h
  | cons x l =>
    injection h with h
    subst h
    simp [Lib.hasPrefix, Lib.trimPrefix, List.isPrefixOf]
theorem suffix_last (l : List UInt8) (c : UInt8) : Lib.hasSuffix l [c] = decide (l.getLast? = some c) := by
  unfold Lib.hasSuffix
  rcases List.eq_nil_or_concat l with rfl | ⟨a, b, rfl⟩
  · rfl
  · rw [List.concat_eq_append, Bool.eq_iff_iff, decide_eq_true_eq, List.isSuffixOf_iff_suffix, List.getLast?_append]
    simp only [List.getLast?_singleton, Option.some_or, Option.some.injEq]
    constructor
    · intro h
      obtain ⟨t, ht⟩ := h
      exact (List.append_inj_right' ht rfl |> fun e => by injection e with e; exact e.symm)
    · rintro rfl
      exact ⟨a, rfl⟩
theorem trim_last {l : List UInt8} {c : UInt8} (h : l.getLast? = some c) : Lib.trimSuffix l [c] = l.dropLast := by
  unfold Lib.trimSuffix
  rw [suffix_last, decide_eq_true h]
  simp [List.dropLast_eq_take]
theorem splitOn_len (c : UInt8) : ∀ l : List UInt8, (splitOn c l).length ≤ l.length + 1
  | [] => by simp [splitOn]
  | x :: l => by
    have ih := splitOn_len c l
    unfold splitOn
    split
    · simp only [List.length_cons]; omega
    · split
      · simp
      · rename_i h t e
        rw [e] at ih
        simp only [List.length_cons] at ih ⊢; omega
theorem splitOn_piece (c : UInt8) : ∀ (l : List UInt8), ∀ p ∈ splitOn c l, p.length ≤ l.length
  | [], p, hp => by simp [splitOn] at hp; subst hp; simp
  | x :: l, p, hp => by
    have ih := splitOn_piece c l
    unfold splitOn at hp
    split at hp
    · rcases List.mem_cons.1 hp with rfl | h
      · simp
      · exact Nat.le_succ_of_le (ih p h)
    · split at hp
      · obtain rfl := List.mem_singleton.1 hp; simp
      · rename_i h t e
        rcases List.mem_cons.1 hp with rfl | h2
        · have := ih h (by rw [e]; simp)
          simp only [List.length_cons]; omega
        · exact Nat.le_succ_of_le (ih p (by rw [e]; exact List.mem_cons_of_mem _ h2))
theorem zeroFl (w : World) : (zeroValue 23).run Tryd.prog w = .ok (.int .u8 0) w := by kernel_rfl

theorem infoStr : (Tryd.prog.info? 9).map (fun i => (i.zero, i.size, i.bytes)) = some (some (.string ByteArray.empty), 1, 16) := by kernel_rfl
def stV (l : List (List UInt8)) : List Value := l.map fun x => Value.string (ofL x)
theorem stV_one (l : List (List UInt8)) : ∀ u ∈ stV l, u.oneCell' = true := by
  intro u hu
  obtain ⟨x, _, rfl⟩ := List.mem_map.1 hu
  rfl
theorem join_eq : ∀ L : List (List UInt8), Lib.join L [32] = joinF L
  | [] => rfl
  | [a] => Lib.join_one a [32]
  | a :: b :: r => by
    have ih := join_eq (b :: r)
    unfold joinF
    rw [← ih]
    simp [Lib.join, List.intercalate, List.intersperse]
theorem joinF_len : ∀ (L : List (List UInt8)) (c : Nat), (∀ x ∈ L, x.length ≤ c) → (joinF L).length ≤ L.length * (c + 1)
  | [], _, _ => by simp [joinF]
  | [a], c, h => by
    have := h a (by simp)
    simp only [joinF, List.length_cons, List.length_nil]; omega
  | a :: b :: r, c, h => by
    have ih := joinF_len (b :: r) c (fun x hx => h x (List.mem_cons_of_mem _ hx))
    have := h a (by simp)
    unfold joinF
    rw [List.length_append, List.length_cons]
    rw [show (a :: b :: r).length = (b :: r).length + 1 from rfl, Nat.add_mul]
    omega
/-- strings.Join with blanks of a slice of the call's own. -/
theorem join_buf (v : Value) (L : List (List UInt8)) (w : World) (base : Nat) (h : Buf w base 1 v L.length (stV L)) (hl : (joinF L).length ≤ 1048576) (hL : L.length ≤ 1048576) :
    Calls Tryd.prog 61 #[v, .string ⟨#[32]⟩] w fun e w' => e = .returned (.string (ofL (joinF L))) ∧ Below w.heap.size w w' := by
  cases L with
  | nil =>
    obtain ⟨A, c, rfl, _⟩ := h.src (stV_one _)
    refine (Tryd.strings_Join_none A c ⟨#[32]⟩ w).mono ?_
    rintro e w' ⟨rfl, rfl⟩
    exact ⟨rfl, Below.refl _ _⟩
  | cons a r =>
    obtain ⟨g, off, cap, rfl, hg, hlt, hnc, hc⟩ := h.at (by simp)
    have e1 : ((a :: r).map ofL).map (·.data.toList) = a :: r := by
      rw [List.map_map]
      conv => rhs; rw [← List.map_id (a :: r)]
      exact List.map_congr_left fun x _ => ofL_data x
    have hj := Tryd.strings_Join g off cap ((a :: r).map ofL) ⟨#[32]⟩ w (fun j x hx => hc j _ (by
        unfold stV
        rw [List.getElem?_map] at hx ⊢
        cases hq : (a :: r)[j]? with
        | none => rw [hq] at hx; cases hx
        | some y => rw [hq] at hx; injection hx with hx; subst hx; rfl)) hlt (by rw [List.length_map]; omega) (by rw [List.length_map]; exact hnc)
        (by rw [e1]; show (Lib.join (a :: r) [32]).length ≤ _; rw [join_eq]; omega)
    rw [e1, List.length_map] at hj
    rw [show (ByteArray.mk #[32]).data.toList = [32] from rfl, join_eq] at hj
    exact hj
theorem fname_len (f : Nat) : (fname f).length ≤ 9 := by
  unfold fname
  split
  · decide
  · split
    · decide
    · split
      · decide
      · split
        · decide
        · split
          · decide
          · simp
theorem eachL_lt (f : Nat) (hf : f < 256) : (eachL f).length ≤ 5 ∧ ∀ x ∈ eachL f, x < 256 := by
  refine ⟨eachTo_le f 5, fun x hx => ?_⟩
  have h : ∀ f : Fin 256, ∀ x ∈ eachL f.val, x < 256 := by decide +kernel
  exact h ⟨f, hf⟩ x hx

theorem ofL_append (a b : List UInt8) : ofL a ++ ofL b = ofL (a ++ b) := ba_ext (by rw [ofL_data, ByteArray.data_append, Array.toList_append, ofL_data, ofL_data])
theorem paren (l : List UInt8) : (⟨#[40]⟩ ++ ofL l : ByteArray) ++ ⟨#[41]⟩ = ofL (40 :: (l ++ [41])) := by
  rw [show (⟨#[40]⟩ : ByteArray) = ofL [40] from rfl, show (⟨#[41]⟩ : ByteArray) = ofL [41] from rfl, ofL_append, ofL_append]; rfl

set_option maxRecDepth 100000 in
set_option maxHeartbeats 1600000 in
theorem list_any (f : Nat) (hf : f < 256) (w : World) (hS : StdA w) :
    Calls Tryd.prog 39 #[.int .u8 f] w fun e w' => e = .returned (.string (ofL (listF f))) ∧ Below w.heap.size w w' := by
  have HE := Lib.hid (each_any f hf w)
  have HS := Lib.hid hS
  have hE := eachL_lt f hf
  have HFL := Lib.hid (show listF f = 40 :: (joinF ((eachL f).map fname) ++ [41]) from rfl)
  generalize listF f = res at HFL ⊢
  generalize eachL f = L at HE hE HFL
  obtain ⟨hl5, hL⟩ := hE
  have HL := Lib.hid hL
  clear hS hL hf
  go_enter Tryd.func39, Tryd.ntmps39
  go_wp2_with fail
  refine HE.out.mono ?_
  rintro e w1 ⟨v, rfl, hbuf, hb1⟩
  obtain ⟨A, cap, rfl, -⟩ := hbuf.src (flV_one _)
  have HC := Lib.hid (show ∀ k (hk : k < L.length), ∃ g off, A = some ⟨g, off, none⟩ ∧ w1.cell? ⟨g, off + k, none⟩ = some (.int .u8 (L[k] : Int)) ∧ g < w1.heap.size from fun k hk => by
    obtain ⟨g, off, c2, e, _, hlt, _, hc⟩ := hbuf.at (by omega)
    injection e with e1 e2 e3
    exact ⟨g, off, e1, hc k _ (by simp [flV, hk]), hlt⟩)
  have HB1 := Lib.hid hb1
  clear hbuf hb1 HE
  go_wp2_with fail
  go_loopw [3, 9] (fun out i wr => ∃ k : Nat, k ≤ L.length ∧ i = .int .i64 k ∧ Buf wr w1.heap.size 1 out k (stV ((L.take k).map fname)) ∧ Below w1.heap.size w1 wr) (fun _ i _ => L.length - (intOf i).toNat)
  case atStart => exact ⟨0, Nat.zero_le _, rfl, Buf.nil _ _ _, Below.refl _ _⟩
  case round =>
    obtain ⟨k, hk, rfl, hbuf, hbb⟩ := hrel
    by_cases hlt : k < L.length
    · obtain ⟨g, off, rfl, hck, hbk⟩ := HC.out k hlt
      have hck2 : wr.cell? ⟨g, off + k, none⟩ = some (.int .u8 (L[k] : Int)) := by rw [hbb.cell (p := ⟨g, off + k, none⟩) hbk]; exact hck
      have hx := HL.out _ (List.getElem_mem hlt)
      have HT := Lib.hid (show (L.take (k + 1)).map fname = (L.take k).map fname ++ [fname L[k]] by rw [List.take_succ_eq_append_getElem hlt, List.map_append]; rfl)
      generalize L[k] = x at hck2 hx HT
      have HN := Lib.hid (name_any x hx wr (HS.out.below (HB1.out.trans (hbb.mono HB1.out.size))))
      have HM := Lib.hid (And.intro hbuf hbb)
      clear hck hbk hbuf hbb hx
      go_wp2_with fail
      refine HN.out.mono ?_
      rintro e w2 ⟨rfl, hb2⟩
      obtain ⟨hbuf, hbb⟩ := HM.out
      have hbuf2 := hbuf.below hb2 (Nat.le_refl _)
      have hbw2 := hbb.trans (hb2.mono hbb.size)
      obtain ⟨i0, hi, hz0, hz1, hz2⟩ := info_parts infoStr
      obtain ⟨v', w', hrun, hbuf', hb'⟩ := buf_app1 Tryd.underlying59 hi hz0 hz1 hz2 rfl (by decide) hbuf2 hbw2 (.string (ofL (fname x))) rfl (by omega) 9
      obtain ⟨A1, cap1, rfl, -⟩ := hbuf2.src (stV_one _)
      have e9 : stV ((L.take k).map fname) ++ [.string (ofL (fname x))] = stV ((L.take (k + 1)).map fname) := by rw [HT.out]; unfold stV; rw [List.map_append]; rfl
      rw [e9] at hbuf'
      obtain ⟨A2, cap2, rfl, -⟩ := hbuf'.src (stV_one _)
      have HR := Lib.hid hrun
      have H2 := Lib.hid (And.intro hbuf' hb')
      clear hbuf hbb hb2 hbuf2 hbw2 hrun hbuf' hb' e9 hi hz0 hz1 hz2
      go_wp2_with (at_builtin; refine wpList_append_run _ rfl (.tmp 13) (.tmp 16) _ _ rfl _ _ rfl rfl _ _ HR.out ?_)
      go_roundw
      case rel => exact ⟨k + 1, by omega, by go_num, H2.out.1, H2.out.2⟩
      case measure => simp [intOf]; omega
    · obtain rfl : k = L.length := by omega
      have hjl := joinF_len (L.map fname) 9 (fun x hx => by
        obtain ⟨y, _, rfl⟩ := List.mem_map.1 hx
        exact fname_len y)
      rw [List.length_map] at hjl
      rw [List.take_length] at hbuf
      have HJ := Lib.hid (join_buf _ (L.map fname) wr w1.heap.size (by rw [List.length_map]; exact hbuf) (by omega) (by rw [List.length_map]; omega))
      obtain ⟨A1, cap1, rfl, -⟩ := hbuf.src (stV_one _)
      have HB := Lib.hid (HB1.out.trans (hbb.mono HB1.out.size))
      have hjl2 : (joinF (L.map fname)).length ≤ 50 := by omega
      have HJL := HFL.out
      generalize joinF (L.map fname) = jn at HJ hjl2 HJL
      have hjs : (ofL jn).size ≤ 50 := by rw [ofL_size]; exact hjl2
      have HFL2 := Lib.hid HJL
      clear hbuf hbb hjl HJL
      go_wp2_with fail
      refine HJ.out.mono ?_
      rintro e w2 ⟨rfl, hb2⟩
      have H2 := Lib.hid (HB.out.trans (hb2.mono HB.out.size))
      clear hb2
      go_wp2_with fail
      go_ret
      exact ⟨by rw [HFL2.out, ← paren]; rfl, H2.out⟩
end Go.Proofs.YtgdhakkfddmkjaaDoor
namespace Go.Proofs.YtgdhakkfddmkjaaDoor
open Go.RowKit

def rspA (r : Rsp) (P : Option Addr) (c : Nat) : Array Value := #[.int .i64 r.kind, .int .u32 r.n, .string (ofL r.tag), .int .i64 r.status, .string (ofL r.text), .int .i64 r.items, .int .u8 r.flags, .int .u32 r.uid, .int .u32 r.size, .slice P r.body.length c]

set_option maxRecDepth 100000 in
set_option maxHeartbeats 1600000 in
theorem number1_any (k st it : Int) (n fl ui sz bl c : Nat) (tg tx : ByteArray) (P : Option Addr) (g : Nat) (wd : List UInt8) (w : World) (hn : n < 4294967296) (hw : w.cell? ⟨g, 0, none⟩ = some (.string (ofL wd))) (hwl : wd.length ≤ 100) (hg : g < w.heap.size) (hS : Std w) :
    Calls Tryd.prog 58 #[.agg #[.int .i64 k, .int .u32 n, .string tg, .int .i64 st, .string tx, .int .i64 it, .int .u8 fl, .int .u32 ui, .int .u32 sz, .slice P bl c], .pointer (some ⟨g, 0, none⟩)] w
      fun e w' => e = .returned (.string (ofL ([42, 32] ++ (Lib.decDigits n ++ (32 :: wd))))) ∧ Below w.heap.size w w' := by
  have HD := Lib.hid (fun W (hW : Below w.heap.size w W) => decimal_any n W hn (hS.below hW))
  have hdl : (ofL (Lib.decDigits n)).size ≤ 10 := decDigits_len n (by omega)
  have hwl2 : (ofL wd).size ≤ 100 := by rw [ofL_size]; exact hwl
  have HE : Hid (ofL ([42, 32] ++ (Lib.decDigits n ++ (32 :: wd))) = ofL [42, 32] ++ ofL (Lib.decDigits n) ++ ofL [32] ++ ofL wd) := Lib.hid (by rw [ofL_append, ofL_append, ofL_append]; simp)
  rw [HE.out]
  generalize ofL (Lib.decDigits n) = ds at *
  generalize ofL wd = wv at *
  rw [show ofL [42, 32] = ⟨#[42, 32]⟩ from rfl, show ofL [32] = ⟨#[32]⟩ from rfl]
  clear hS hn
  go_enter Tryd.func58, Tryd.ntmps58
  go_wp2_with fail
  have HB0 : Hid (Below w.heap.size w (w.alloc (.cells #[.int .i64 k, .int .u32 n, .string tg, .int .i64 st, .string tx, .int .i64 it, .int .u8 fl, .int .u32 ui, .int .u32 sz, .slice P bl c] 26)).drew) := Lib.hid (Below.drew ((Below.refl _ _).alloc (Nat.le_refl _) _))
  have hww := HB0.out.size
  go_region_with (go_at_call 51; refine (HD.out _ HB0.out).mono ?_; rintro e w1 ⟨rfl, hb⟩; have hx : w1.cell? ⟨g, 0, none⟩ = some (.string wv) := by {rw [(HB0.out.trans (hb.mono hww)).cell (by exact hg)]; exact hw}; have HB := Lib.hid (HB0.out.trans (hb.mono hww)); clear hb)
  all_goals
    go_wp2_with fail
    go_ret
    exact ⟨rfl, HB.out⟩
end Go.Proofs.YtgdhakkfddmkjaaDoor
namespace Go.Proofs.YtgdhakkfddmkjaaDoor
open Go.RowKit

theorem Blk.ten {w : World} {g : Nat} {t : TypeId} {a0 a1 a2 a3 a4 a5 a6 a7 a8 a9 : Value} (h : Blk w g t #[a0, a1, a2, a3, a4, a5, a6, a7, a8, a9]) :
    (w.cell? ⟨g, 0, none⟩ = some a0 ∧ w.cell? ⟨g, 1, none⟩ = some a1 ∧ w.cell? ⟨g, 2, none⟩ = some a2 ∧ w.cell? ⟨g, 3, none⟩ = some a3 ∧ w.cell? ⟨g, 4, none⟩ = some a4 ∧ w.cell? ⟨g, 5, none⟩ = some a5 ∧ w.cell? ⟨g, 6, none⟩ = some a6 ∧ w.cell? ⟨g, 7, none⟩ = some a7 ∧ w.cell? ⟨g, 8, none⟩ = some a8 ∧ w.cell? ⟨g, 9, none⟩ = some a9) ∧ (w.frozen? ⟨g, 0, none⟩ = false ∧ w.frozen? ⟨g, 1, none⟩ = false ∧ w.frozen? ⟨g, 2, none⟩ = false ∧ w.frozen? ⟨g, 3, none⟩ = false ∧ w.frozen? ⟨g, 4, none⟩ = false ∧ w.frozen? ⟨g, 5, none⟩ = false ∧ w.frozen? ⟨g, 6, none⟩ = false ∧ w.frozen? ⟨g, 7, none⟩ = false ∧ w.frozen? ⟨g, 8, none⟩ = false ∧ w.frozen? ⟨g, 9, none⟩ = false) := by
  refine ⟨⟨?_, ?_, ?_, ?_, ?_, ?_, ?_, ?_, ?_, ?_⟩, ⟨h.frz 0, h.frz 1, h.frz 2, h.frz 3, h.frz 4, h.frz 5, h.frz 6, h.frz 7, h.frz 8, h.frz 9⟩⟩
  all_goals (rw [h.cell]; rfl)

set_option maxRecDepth 100000 in
set_option maxHeartbeats 800000 in
theorem number2_any (k st it : Int) (n fl ui sz bl c : Nat) (tg tx : ByteArray) (P : Option Addr) (w : World) :
    Calls Tryd.prog 59 #[.agg #[.int .i64 k, .int .u32 n, .string tg, .int .i64 st, .string tx, .int .i64 it, .int .u8 fl, .int .u32 ui, .int .u32 sz, .slice P bl c]] w fun e w' => e = .returned (.tuple #[.agg #[.int .i64 0, .int .u32 n, .string ⟨#[]⟩, .int .i64 0, .string ⟨#[]⟩, .int .i64 0, .int .u8 0, .int .u32 0, .int .u32 0, .slice none 0 0], .bool true]) ∧ Below w.heap.size w w' := by
  go_enter Tryd.func59, Tryd.ntmps59
  go_wp2_with fail
  refine bodyPost_ret (v := .tuple #[.agg #[.int .i64 0, .int .u32 n, .string ⟨#[]⟩, .int .i64 0, .string ⟨#[]⟩, .int .i64 0, .int .u8 0, .int .u32 0, .int .u32 0, .slice none 0 0], .bool true]) (by simp [results, Tryd.results59, go_sem]) rfl ⟨rfl, ?_⟩
  exact ((Below.refl _ _).alloc (Nat.le_refl _) _).alloc (by rw [World.size_alloc]; omega) _

set_option maxRecDepth 100000 in
set_option maxHeartbeats 800000 in
theorem forms2_any (k st it : Int) (n fl ui sz bl c : Nat) (tg tx : ByteArray) (P : Option Addr) (w : World) :
    Calls Tryd.prog 40 #[.agg #[.int .i64 k, .int .u32 n, .string tg, .int .i64 st, .string tx, .int .i64 it, .int .u8 fl, .int .u32 ui, .int .u32 sz, .slice P bl c]] w fun e w' => e = .returned (.tuple #[.agg #[.int .i64 0, .int .u32 0, .string ⟨#[]⟩, .int .i64 0, .string ⟨#[]⟩, .int .i64 0, .int .u8 0, .int .u32 0, .int .u32 0, .slice none 0 0], .bool true]) ∧ Below w.heap.size w w' := by
  go_enter Tryd.func40, Tryd.ntmps40
  go_wp2_with fail
  refine bodyPost_ret (v := .tuple #[.agg #[.int .i64 0, .int .u32 0, .string ⟨#[]⟩, .int .i64 0, .string ⟨#[]⟩, .int .i64 0, .int .u8 0, .int .u32 0, .int .u32 0, .slice none 0 0], .bool true]) (by simp [results, Tryd.results40, go_sem]) rfl ⟨rfl, ?_⟩
  exact ((Below.refl _ _).alloc (Nat.le_refl _) _).alloc (by rw [World.size_alloc]; omega) _

set_option maxRecDepth 100000 in
set_option maxHeartbeats 800000 in
theorem text1_any (k st it : Int) (n fl ui sz bl c : Nat) (tg tx : ByteArray) (P : Option Addr) (g : Nat) (bf : List UInt8) (w : World) (hw : w.cell? ⟨g, 0, none⟩ = some (.string (ofL bf))) (hbl : bf.length ≤ 100) (hg : g < w.heap.size) (ht : tx.size ≤ 100000) :
    Calls Tryd.prog 65 #[.agg #[.int .i64 k, .int .u32 n, .string tg, .int .i64 st, .string tx, .int .i64 it, .int .u8 fl, .int .u32 ui, .int .u32 sz, .slice P bl c], .pointer (some ⟨g, 0, none⟩)] w fun e w' => e = .returned (.string (ofL bf ++ ofL [32] ++ tx)) ∧ Below w.heap.size w w' := by
  have hbl2 : (ofL bf).size ≤ 100 := by rw [ofL_size]; exact hbl
  generalize ofL bf = bv at *
  rw [show ofL [32] = ⟨#[32]⟩ from rfl]
  go_enter Tryd.func65, Tryd.ntmps65
  go_wp2_with fail
  go_ret
  exact ⟨rfl, (Below.refl _ _).alloc (Nat.le_refl _) _⟩

set_option maxRecDepth 100000 in
set_option maxHeartbeats 800000 in
theorem forms1_any (k st it : Int) (n fl ui sz bl c : Nat) (tg tx : ByteArray) (P : Option Addr) (w : World) (hS : StdA w) :
    Calls Tryd.prog 38 #[.agg #[.int .i64 k, .int .u32 n, .string tg, .int .i64 st, .string tx, .int .i64 it, .int .u8 fl, .int .u32 ui, .int .u32 sz, .slice P bl c]] w fun e w' => e = .returned (.string (ofL ([42, 32, 70, 76, 65, 71, 83, 32] ++ listF 31))) ∧ Below w.heap.size w w' := by
  have HL := Lib.hid (fun W (hW : Below w.heap.size w W) => list_any 31 (by decide) W (hS.below hW))
  have hl : (ofL (listF 31)).size ≤ 100 := by decide
  have HE : Hid (ofL ([42, 32, 70, 76, 65, 71, 83, 32] ++ listF 31) = ⟨#[42, 32, 70, 76, 65, 71, 83, 32]⟩ ++ ofL (listF 31)) := Lib.hid (by rw [← ofL_append]; rfl)
  rw [HE.out]
  generalize ofL (listF 31) = ls at *
  clear hS
  go_enter Tryd.func38, Tryd.ntmps38
  go_wp2_with fail
  refine (HL.out _ ((Below.refl _ _).alloc (Nat.le_refl _) _)).mono ?_
  rintro e w1 ⟨rfl, hb⟩
  have HB : Hid (Below w.heap.size w w1) := Lib.hid (((Below.refl _ _).alloc (Nat.le_refl _) _).trans (hb.mono (by rw [World.size_alloc]; omega)))
  clear hb
  go_wp2_with fail
  go_ret
  exact ⟨rfl, HB.out⟩

set_option maxRecDepth 100000 in
set_option maxHeartbeats 1600000 in
theorem text2_any (k st it : Int) (n fl ui sz bl c : Nat) (tg tx : ByteArray) (P : Option Addr) (w : World) (ht : tx.size ≤ 100000) :
    Calls Tryd.prog 66 #[.agg #[.int .i64 k, .int .u32 n, .string tg, .int .i64 st, .string tx, .int .i64 it, .int .u8 fl, .int .u32 ui, .int .u32 sz, .slice P bl c]] w fun e w' => e = .returned (.tuple #[.agg #[.int .i64 0, .int .u32 0, .string ⟨#[]⟩, .int .i64 0, .string tx, .int .i64 0, .int .u8 0, .int .u32 0, .int .u32 0, .slice none 0 0], .bool (allS textB tx)]) ∧ Below w.heap.size w w' := by
  have HA := Lib.hid (fun W => all_any 68 textB tx W (by unfold maxLen; omega) (fun _ _ => rfl) (fun c W h1 h2 => (text_any c W h1 h2).mono fun e w' ⟨h, h2⟩ => ⟨h, h2 ▸ Below.refl _ _⟩))
  generalize allS textB tx = ok at *
  go_enter Tryd.func66, Tryd.ntmps66
  go_wp2_with fail
  have HB0 : Hid (Below w.heap.size w ((w.alloc (.cells #[.int .i64 k, .int .u32 n, .string tg, .int .i64 st, .string tx, .int .i64 it, .int .u8 fl, .int .u32 ui, .int .u32 sz, .slice P bl c] 26)).alloc (.cells #[.int .i64 0, .int .u32 0, .string ⟨#[]⟩, .int .i64 0, .string ⟨#[]⟩, .int .i64 0, .int .u8 0, .int .u32 0, .int .u32 0, .slice none 0 0] 26)).drew) := Lib.hid (Below.drew (((Below.refl _ _).alloc (Nat.le_refl _) _).alloc (by rw [World.size_alloc]; omega) _))
  have HK1 : Hid (Blk ((w.alloc (.cells #[.int .i64 k, .int .u32 n, .string tg, .int .i64 st, .string tx, .int .i64 it, .int .u8 fl, .int .u32 ui, .int .u32 sz, .slice P bl c] 26)).alloc (.cells #[.int .i64 0, .int .u32 0, .string ⟨#[]⟩, .int .i64 0, .string ⟨#[]⟩, .int .i64 0, .int .u8 0, .int .u32 0, .int .u32 0, .slice none 0 0] 26)).drew w.heap.size 26 _) := Lib.hid ((Blk.made w _ _).past _)
  have HK2 : Hid (Blk ((w.alloc (.cells #[.int .i64 k, .int .u32 n, .string tg, .int .i64 st, .string tx, .int .i64 it, .int .u8 fl, .int .u32 ui, .int .u32 sz, .slice P bl c] 26)).alloc (.cells #[.int .i64 0, .int .u32 0, .string ⟨#[]⟩, .int .i64 0, .string ⟨#[]⟩, .int .i64 0, .int .u8 0, .int .u32 0, .int .u32 0, .slice none 0 0] 26)).drew (w.heap.size + 1) 26 _) := Lib.hid (by have := Blk.made (w.alloc (.cells #[.int .i64 k, .int .u32 n, .string tg, .int .i64 st, .string tx, .int .i64 it, .int .u8 fl, .int .u32 ui, .int .u32 sz, .slice P bl c] 26)) 26 #[.int .i64 0, .int .u32 0, .string ⟨#[]⟩, .int .i64 0, .string ⟨#[]⟩, .int .i64 0, .int .u8 0, .int .u32 0, .int .u32 0, .slice none 0 0]; rw [World.size_alloc] at this; exact this)
  have hz : w.heap.size ≤ ((w.alloc (.cells #[.int .i64 k, .int .u32 n, .string tg, .int .i64 st, .string tx, .int .i64 it, .int .u8 fl, .int .u32 ui, .int .u32 sz, .slice P bl c] 26)).alloc (.cells #[.int .i64 0, .int .u32 0, .string ⟨#[]⟩, .int .i64 0, .string ⟨#[]⟩, .int .i64 0, .int .u8 0, .int .u32 0, .int .u32 0, .slice none 0 0] 26)).drew.heap.size := HB0.out.size
  have hz1 : w.heap.size + 1 < ((w.alloc (.cells #[.int .i64 k, .int .u32 n, .string tg, .int .i64 st, .string tx, .int .i64 it, .int .u8 fl, .int .u32 ui, .int .u32 sz, .slice P bl c] 26)).alloc (.cells #[.int .i64 0, .int .u32 0, .string ⟨#[]⟩, .int .i64 0, .string ⟨#[]⟩, .int .i64 0, .int .u8 0, .int .u32 0, .int .u32 0, .slice none 0 0] 26)).drew.heap.size := HK2.out.lt
  go_region_with (go_at_call 67; refine (HA.out _).mono ?_; rintro e w1 ⟨rfl, hb⟩; have HQ1 := Lib.hid (HK1.out.below hb (by omega)); have HQ2 := Lib.hid (HK2.out.below hb hz1); have hx4 : w1.cell? ⟨w.heap.size, 4, none⟩ = some (.string tx) := HQ1.out.ten.1.2.2.2.2.1; obtain ⟨⟨d0, d1, d2, d3, d4, d5, d6, d7, d8, d9⟩, f0, f1, f2, f3, f4, f5, f6, f7, f8, f9⟩ := HQ2.out.ten; have HB := Lib.hid (HB0.out.trans (hb.mono hz)); clear hb)
  all_goals
    go_wp2_with fail
    try simp only [List.getElem_toArray, List.getElem_cons_zero, List.getElem_cons_succ, Act.put, List.setIfInBounds_toArray, List.set_cons_zero, List.set_cons_succ]
    have hp := ((((((((((HQ2.out.put 0 (.int .i64 0)).put 1 (.int .u32 0)).put 2 (.string ⟨#[]⟩)).put 3 (.int .i64 0)).put 4 (.string tx)).put 5 (.int .i64 0)).put 6 (.int .u8 0)).put 7 (.int .u32 0)).put 8 (.int .u32 0)).put 9 (.slice none 0 0))
    obtain ⟨⟨z0, z1, z2, z3, z4, z5, z6, z7, z8, z9⟩, -⟩ := Blk.ten hp
    refine bodyPost_ret (v := .tuple #[.agg #[.int .i64 0, .int .u32 0, .string ⟨#[]⟩, .int .i64 0, .string tx, .int .i64 0, .int .u8 0, .int .u32 0, .int .u32 0, .slice none 0 0], .bool ok]) (by simp [results, Tryd.results66, go_sem, z0, z1, z2, z3, z4, z5, z6, z7, z8, z9]) rfl ⟨rfl, ?_⟩
    (repeat refine Below.setCell ?_ (Nat.le_succ _) _)
    exact HB.out

set_option maxRecDepth 100000 in
set_option maxHeartbeats 800000 in
theorem number_mk (s : ByteArray) (w : World) :
    Calls Tryd.prog 36 #[.string s] w fun e w' => e = .returned (.agg #[.func (.func 58) #[] #[.pointer (some ⟨w.heap.size, 0, none⟩)], .func (.func 59) #[] #[]]) ∧ Blk w' w.heap.size 9 #[.string s] ∧ Below w.heap.size w w' := by
  go_enter Tryd.func36, Tryd.ntmps36
  go_wp2_with fail
  refine bodyPost_ret (v := .agg #[.func (.func 58) #[] #[.pointer (some ⟨w.heap.size, 0, none⟩)], .func (.func 59) #[] #[]]) (by simp [results, Tryd.results36, go_sem]) rfl ⟨rfl, ?_, ?_⟩
  · exact Blk.past (Blk.made _ _ _) _
  · exact ((Below.refl _ _).alloc (Nat.le_refl _) _).alloc (by rw [World.size_alloc]; omega) _

set_option maxRecDepth 100000 in
set_option maxHeartbeats 800000 in
theorem text_mk (s : ByteArray) (w : World) :
    Calls Tryd.prog 41 #[.string s] w fun e w' => e = .returned (.agg #[.func (.func 65) #[] #[.pointer (some ⟨w.heap.size, 0, none⟩)], .func (.func 66) #[] #[]]) ∧ Blk w' w.heap.size 9 #[.string s] ∧ Below w.heap.size w w' := by
  go_enter Tryd.func41, Tryd.ntmps41
  go_wp2_with fail
  refine bodyPost_ret (v := .agg #[.func (.func 65) #[] #[.pointer (some ⟨w.heap.size, 0, none⟩)], .func (.func 66) #[] #[]]) (by simp [results, Tryd.results41, go_sem]) rfl ⟨rfl, ?_, ?_⟩
  · exact Blk.past (Blk.made _ _ _) _
  · exact ((Below.refl _ _).alloc (Nat.le_refl _) _).alloc (by rw [World.size_alloc]; omega) _

set_option maxRecDepth 100000 in
set_option maxHeartbeats 800000 in
theorem tagged_mk (w : World) :
    Calls Tryd.prog 42 #[] w fun e w' => e = .returned (.agg #[.func (.func 69) #[] #[], .func (.func 71) #[] #[]]) ∧ Below w.heap.size w w' := by
  go_enter Tryd.func42, Tryd.ntmps42
  go_wp2_with fail
  refine bodyPost_ret (v := .agg #[.func (.func 69) #[] #[], .func (.func 71) #[] #[]]) (by simp [results, Tryd.results42, go_sem]) rfl ⟨rfl, ?_⟩
  exact (Below.refl _ _).alloc (Nat.le_refl _) _

set_option maxRecDepth 100000 in
set_option maxHeartbeats 800000 in
theorem fetched_mk (w : World) :
    Calls Tryd.prog 37 #[] w fun e w' => e = .returned (.agg #[.func (.func 60) #[] #[], .func (.func 62) #[] #[]]) ∧ Below w.heap.size w w' := by
  go_enter Tryd.func37, Tryd.ntmps37
  go_wp2_with fail
  refine bodyPost_ret (v := .agg #[.func (.func 60) #[] #[], .func (.func 62) #[] #[]]) (by simp [results, Tryd.results37, go_sem]) rfl ⟨rfl, ?_⟩
  exact (Below.refl _ _).alloc (Nat.le_refl _) _

end Go.Proofs.YtgdhakkfddmkjaaDoor
namespace Go.Proofs.YtgdhakkfddmkjaaDoor
open Go.RowKit

theorem grown_of_below {w w' : World} (h : Below w.heap.size w w') (row : Option Nat) : w.grownBy w' row := ⟨h.os, h.tape, h.output, h.size, fun k hk _ => h.block k hk⟩
theorem grown_trans {a b c : World} {row : Option Nat} (h : a.grownBy b row) (k : b.grownBy c row) : a.grownBy c row :=
  ⟨k.os.trans h.os, k.tape.trans h.tape, k.output.trans h.output, Nat.le_trans h.size k.size, fun i hi hn => (k.block i (Nat.lt_of_lt_of_le hi h.size) hn).trans (h.block i hi hn)⟩
theorem grown_new {w w1 : World} {row : Option Nat} (h : w.grownBy w1 row) {b : Nat} (hb : w.heap.size ≤ b) (o : Nat) (v : Value) : w.grownBy (w1.setCell ⟨b, o, none⟩ v) row :=
  ⟨h.os, h.tape, h.output, by simpa [World.setCell] using h.size, fun i hi hn => (Below.heap_setCell w1 ⟨b, o, none⟩ v i (by show i ≠ b; omega)).trans (h.block i hi hn)⟩
theorem grown_put {w w1 : World} {g : Nat} (h : w.grownBy w1 (some g)) (o : Nat) (v : Value) : w.grownBy (w1.setCell ⟨g, o, none⟩ v) (some g) :=
  ⟨h.os, h.tape, h.output, by simpa [World.setCell] using h.size, fun i hi hn => (Below.heap_setCell w1 ⟨g, o, none⟩ v i (by show i ≠ g; rintro rfl; exact hn rfl)).trans (h.block i hi hn)⟩
theorem grown_alloc {w w1 : World} {row : Option Nat} (h : w.grownBy w1 row) (o : Obj) : w.grownBy (w1.alloc o) row :=
  ⟨h.os, h.tape, h.output, Nat.le_trans h.size (by rw [World.size_alloc]; omega), fun i hi hn => (Below.heap_alloc w1 o i (Nat.lt_of_lt_of_le hi h.size)).trans (h.block i hi hn)⟩
theorem grown_drewN {w w1 : World} {row : Option Nat} (h : w.grownBy w1 row) (n : Nat) : w.grownBy (w1.drewN n) row := ⟨h.os, h.tape, h.output, h.size, h.block⟩
theorem grown_drew {w w1 : World} {row : Option Nat} (h : w.grownBy w1 row) : w.grownBy w1.drew row := ⟨h.os, h.tape, h.output, h.size, h.block⟩
theorem Blk.grown {w w' : World} {g : Nat} {t : TypeId} {cs : Array Value} {row : Option Nat} (h : Blk w g t cs) (hg : w.grownBy w' row) (hne : some g ≠ row) : Blk w' g t cs := (hg.block g h.lt hne).trans h
/-- What is below an old mark stays where only a newer block turns. -/
theorem below_grow {B : Nat} {a w w' : World} {g : Nat} (h : Below B a w) (hg : w.grownBy w' (some g)) (hB : B ≤ w.heap.size) (hb : B ≤ g) : Below B a w' :=
  h.grown hg hB (fun k hk => by injection hk with hk; omega)
end Go.Proofs.YtgdhakkfddmkjaaDoor
namespace Go.Proofs.YtgdhakkfddmkjaaDoor
open Go.RowKit

theorem listF_le (f : Nat) (hf : f < 256) : (listF f).length ≤ 60 := by
  have h : ∀ f : Fin 256, (listF f.val).length ≤ 60 := by decide +kernel
  exact h ⟨f, hf⟩
/-- The four items: the number, what writes it, what copies it. -/
def prtC : Array Value := #[.int .i64 1, .func (.func 48) #[] #[], .func (.func 49) #[] #[], .int .i64 2, .func (.func 50) #[] #[], .func (.func 52) #[] #[], .int .i64 4, .func (.func 53) #[] #[], .func (.func 54) #[] #[], .int .i64 16, .func (.func 55) #[] #[], .func (.func 57) #[] #[]]

set_option maxRecDepth 100000 in
set_option maxHeartbeats 800000 in
theorem parts_any (w : World) : Calls Tryd.prog 33 #[] w fun e w' => e = .returned (.slice (some ⟨w.heap.size, 0, none⟩) 4 4) ∧ Blk w' w.heap.size 65 prtC ∧ Below w.heap.size w w' := by
  unfold prtC
  go_enter Tryd.func33, Tryd.ntmps33
  go_wp2_with fail
  go_ret
  exact ⟨rfl, Blk.made _ _ _, (Below.refl _ _).alloc (Nat.le_refl _) _⟩

set_option maxRecDepth 100000 in
set_option maxHeartbeats 800000 in
theorem copy0_any (k n st it fl ui sz : Int) (tg tx : ByteArray) (P : Option Addr) (bl c : Nat) (g : Nat) (cs : Array Value) (u : Value) (w : World) (hg : Blk w g 26 cs) (hu : cs[6]? = some u) :
    Calls Tryd.prog 49 #[.pointer (some ⟨g, 0, none⟩), .agg #[.int .i64 k, .int .u32 n, .string tg, .int .i64 st, .string tx, .int .i64 it, .int .u8 fl, .int .u32 ui, .int .u32 sz, .slice P bl c]] w fun e w' => e = .returned (.tuple #[]) ∧ Blk w' g 26 (cs.setIfInBounds 6 (.int .u8 fl)) ∧ w.grownBy w' (some g) := by
  have hlt := hg.lt
  have hne : w.heap.size ≠ g := by omega
  have hg1 : Blk (w.alloc (.cells #[.int .i64 k, .int .u32 n, .string tg, .int .i64 st, .string tx, .int .i64 it, .int .u8 fl, .int .u32 ui, .int .u32 sz, .slice P bl c] 26)) g 26 cs := hg.past _
  have hc : (w.alloc (.cells #[.int .i64 k, .int .u32 n, .string tg, .int .i64 st, .string tx, .int .i64 it, .int .u8 fl, .int .u32 ui, .int .u32 sz, .slice P bl c] 26)).cell? ⟨g, 6, none⟩ = some u := by rw [hg1.cell]; exact hu
  have hf := hg1.frz 6
  have HG0 := Lib.hid hg
  clear hg hu hg1
  go_enter Tryd.func49, Tryd.ntmps49
  go_wp2_with fail
  go_end0
  exact ⟨rfl, (HG0.out.put 6 _).past _, grown_alloc (grown_put (World.grownBy.refl _ _) _ _) _⟩

set_option maxRecDepth 100000 in
set_option maxHeartbeats 800000 in
theorem copy1_any (k n st it fl ui sz : Int) (tg tx : ByteArray) (P : Option Addr) (bl c : Nat) (g : Nat) (cs : Array Value) (u : Value) (w : World) (hg : Blk w g 26 cs) (hu : cs[7]? = some u) :
    Calls Tryd.prog 52 #[.pointer (some ⟨g, 0, none⟩), .agg #[.int .i64 k, .int .u32 n, .string tg, .int .i64 st, .string tx, .int .i64 it, .int .u8 fl, .int .u32 ui, .int .u32 sz, .slice P bl c]] w fun e w' => e = .returned (.tuple #[]) ∧ Blk w' g 26 (cs.setIfInBounds 7 (.int .u32 ui)) ∧ w.grownBy w' (some g) := by
  have hlt := hg.lt
  have hne : w.heap.size ≠ g := by omega
  have hg1 : Blk (w.alloc (.cells #[.int .i64 k, .int .u32 n, .string tg, .int .i64 st, .string tx, .int .i64 it, .int .u8 fl, .int .u32 ui, .int .u32 sz, .slice P bl c] 26)) g 26 cs := hg.past _
  have hc : (w.alloc (.cells #[.int .i64 k, .int .u32 n, .string tg, .int .i64 st, .string tx, .int .i64 it, .int .u8 fl, .int .u32 ui, .int .u32 sz, .slice P bl c] 26)).cell? ⟨g, 7, none⟩ = some u := by rw [hg1.cell]; exact hu
  have hf := hg1.frz 7
  have HG0 := Lib.hid hg
  clear hg hu hg1
  go_enter Tryd.func52, Tryd.ntmps52
  go_wp2_with fail
  go_end0
  exact ⟨rfl, (HG0.out.put 7 _).past _, grown_alloc (grown_put (World.grownBy.refl _ _) _ _) _⟩

set_option maxRecDepth 100000 in
set_option maxHeartbeats 800000 in
theorem copy2_any (k n st it fl ui sz : Int) (tg tx : ByteArray) (P : Option Addr) (bl c : Nat) (g : Nat) (cs : Array Value) (u : Value) (w : World) (hg : Blk w g 26 cs) (hu : cs[8]? = some u) :
    Calls Tryd.prog 54 #[.pointer (some ⟨g, 0, none⟩), .agg #[.int .i64 k, .int .u32 n, .string tg, .int .i64 st, .string tx, .int .i64 it, .int .u8 fl, .int .u32 ui, .int .u32 sz, .slice P bl c]] w fun e w' => e = .returned (.tuple #[]) ∧ Blk w' g 26 (cs.setIfInBounds 8 (.int .u32 sz)) ∧ w.grownBy w' (some g) := by
  have hlt := hg.lt
  have hne : w.heap.size ≠ g := by omega
  have hg1 : Blk (w.alloc (.cells #[.int .i64 k, .int .u32 n, .string tg, .int .i64 st, .string tx, .int .i64 it, .int .u8 fl, .int .u32 ui, .int .u32 sz, .slice P bl c] 26)) g 26 cs := hg.past _
  have hc : (w.alloc (.cells #[.int .i64 k, .int .u32 n, .string tg, .int .i64 st, .string tx, .int .i64 it, .int .u8 fl, .int .u32 ui, .int .u32 sz, .slice P bl c] 26)).cell? ⟨g, 8, none⟩ = some u := by rw [hg1.cell]; exact hu
  have hf := hg1.frz 8
  have HG0 := Lib.hid hg
  clear hg hu hg1
  go_enter Tryd.func54, Tryd.ntmps54
  go_wp2_with fail
  go_end0
  exact ⟨rfl, (HG0.out.put 8 _).past _, grown_alloc (grown_put (World.grownBy.refl _ _) _ _) _⟩

set_option maxRecDepth 100000 in
set_option maxHeartbeats 800000 in
theorem copy3_any (k n st it fl ui sz : Int) (tg tx : ByteArray) (P : Option Addr) (bl c : Nat) (g : Nat) (cs : Array Value) (u : Value) (w : World) (hg : Blk w g 26 cs) (hu : cs[9]? = some u) :
    Calls Tryd.prog 57 #[.pointer (some ⟨g, 0, none⟩), .agg #[.int .i64 k, .int .u32 n, .string tg, .int .i64 st, .string tx, .int .i64 it, .int .u8 fl, .int .u32 ui, .int .u32 sz, .slice P bl c]] w fun e w' => e = .returned (.tuple #[]) ∧ Blk w' g 26 (cs.setIfInBounds 9 (.slice P bl c)) ∧ w.grownBy w' (some g) := by
  have hlt := hg.lt
  have hne : w.heap.size ≠ g := by omega
  have hg1 : Blk (w.alloc (.cells #[.int .i64 k, .int .u32 n, .string tg, .int .i64 st, .string tx, .int .i64 it, .int .u8 fl, .int .u32 ui, .int .u32 sz, .slice P bl c] 26)) g 26 cs := hg.past _
  have hc : (w.alloc (.cells #[.int .i64 k, .int .u32 n, .string tg, .int .i64 st, .string tx, .int .i64 it, .int .u8 fl, .int .u32 ui, .int .u32 sz, .slice P bl c] 26)).cell? ⟨g, 9, none⟩ = some u := by rw [hg1.cell]; exact hu
  have hf := hg1.frz 9
  have HG0 := Lib.hid hg
  clear hg hu hg1
  go_enter Tryd.func57, Tryd.ntmps57
  go_wp2_with fail
  go_end0
  exact ⟨rfl, (HG0.out.put 9 _).past _, grown_alloc (grown_put (World.grownBy.refl _ _) _ _) _⟩

set_option maxRecDepth 100000 in
set_option maxHeartbeats 1600000 in
theorem ptext0_any (k n st it ui sz : Int) (fl : Nat) (tg tx : ByteArray) (P : Option Addr) (bl c : Nat) (w : World) (hf : fl < 256) (hS : StdA w) :
    Calls Tryd.prog 48 #[.agg #[.int .i64 k, .int .u32 n, .string tg, .int .i64 st, .string tx, .int .i64 it, .int .u8 fl, .int .u32 ui, .int .u32 sz, .slice P bl c]] w fun e w' => e = .returned (.string (ofL ([70, 76, 65, 71, 83, 32] ++ listF fl))) ∧ Below w.heap.size w w' := by
  have HD := Lib.hid (fun W (hW : Below w.heap.size w W) => list_any fl hf W (hS.below hW))
  have hdl : (ofL (listF fl)).size ≤ 100 := by have := listF_le fl hf; rw [ofL_size]; omega
  have HE : Hid (ofL ([70, 76, 65, 71, 83, 32] ++ listF fl) = ⟨#[70, 76, 65, 71, 83, 32]⟩ ++ ofL (listF fl)) := Lib.hid (by rw [← ofL_append]; rfl)
  rw [HE.out]
  generalize ofL (listF fl) = ds at *
  clear hS hf HE
  go_enter Tryd.func48, Tryd.ntmps48
  go_wp2_with fail
  refine (HD.out _ ((Below.refl _ _).alloc (Nat.le_refl _) _)).mono ?_
  rintro e w1 ⟨rfl, hb⟩
  have HB : Hid (Below w.heap.size w w1) := Lib.hid (((Below.refl _ _).alloc (Nat.le_refl _) _).trans (hb.mono (by rw [World.size_alloc]; omega)))
  clear hb
  go_wp2_with fail
  go_ret
  exact ⟨rfl, HB.out⟩

set_option maxRecDepth 100000 in
set_option maxHeartbeats 1600000 in
theorem ptext1_any (k n st it fl sz : Int) (ui : Nat) (tg tx : ByteArray) (P : Option Addr) (bl c : Nat) (w : World) (hu : ui < 4294967296) (hS : Std w) :
    Calls Tryd.prog 50 #[.agg #[.int .i64 k, .int .u32 n, .string tg, .int .i64 st, .string tx, .int .i64 it, .int .u8 fl, .int .u32 ui, .int .u32 sz, .slice P bl c]] w fun e w' => e = .returned (.string (ofL ([85, 73, 68, 32] ++ Lib.decDigits ui))) ∧ Below w.heap.size w w' := by
  have HD := Lib.hid (fun W (hW : Below w.heap.size w W) => decimal_any ui W hu (hS.below hW))
  have hdl : (ofL (Lib.decDigits ui)).size ≤ 100 := by have := decDigits_len ui (by omega); rw [ofL_size]; omega
  have HE : Hid (ofL ([85, 73, 68, 32] ++ Lib.decDigits ui) = ⟨#[85, 73, 68, 32]⟩ ++ ofL (Lib.decDigits ui)) := Lib.hid (by rw [← ofL_append]; rfl)
  rw [HE.out]
  generalize ofL (Lib.decDigits ui) = ds at *
  clear hS hu HE
  go_enter Tryd.func50, Tryd.ntmps50
  go_wp2_with fail
  refine (HD.out _ ((Below.refl _ _).alloc (Nat.le_refl _) _)).mono ?_
  rintro e w1 ⟨rfl, hb⟩
  have HB : Hid (Below w.heap.size w w1) := Lib.hid (((Below.refl _ _).alloc (Nat.le_refl _) _).trans (hb.mono (by rw [World.size_alloc]; omega)))
  clear hb
  go_wp2_with fail
  go_ret
  exact ⟨rfl, HB.out⟩

set_option maxRecDepth 100000 in
set_option maxHeartbeats 1600000 in
theorem ptext2_any (k n st it fl ui : Int) (sz : Nat) (tg tx : ByteArray) (P : Option Addr) (bl c : Nat) (w : World) (hu : sz < 4294967296) (hS : Std w) :
    Calls Tryd.prog 53 #[.agg #[.int .i64 k, .int .u32 n, .string tg, .int .i64 st, .string tx, .int .i64 it, .int .u8 fl, .int .u32 ui, .int .u32 sz, .slice P bl c]] w fun e w' => e = .returned (.string (ofL ([82, 70, 67, 56, 50, 50, 46, 83, 73, 90, 69, 32] ++ Lib.decDigits sz))) ∧ Below w.heap.size w w' := by
  have HD := Lib.hid (fun W (hW : Below w.heap.size w W) => decimal_any sz W hu (hS.below hW))
  have hdl : (ofL (Lib.decDigits sz)).size ≤ 100 := by have := decDigits_len sz (by omega); rw [ofL_size]; omega
  have HE : Hid (ofL ([82, 70, 67, 56, 50, 50, 46, 83, 73, 90, 69, 32] ++ Lib.decDigits sz) = ⟨#[82, 70, 67, 56, 50, 50, 46, 83, 73, 90, 69, 32]⟩ ++ ofL (Lib.decDigits sz)) := Lib.hid (by rw [← ofL_append]; rfl)
  rw [HE.out]
  generalize ofL (Lib.decDigits sz) = ds at *
  clear hS hu HE
  go_enter Tryd.func53, Tryd.ntmps53
  go_wp2_with fail
  refine (HD.out _ ((Below.refl _ _).alloc (Nat.le_refl _) _)).mono ?_
  rintro e w1 ⟨rfl, hb⟩
  have HB : Hid (Below w.heap.size w w1) := Lib.hid (((Below.refl _ _).alloc (Nat.le_refl _) _).trans (hb.mono (by rw [World.size_alloc]; omega)))
  clear hb
  go_wp2_with fail
  go_ret
  exact ⟨rfl, HB.out⟩

set_option maxRecDepth 100000 in
set_option maxHeartbeats 1600000 in
theorem ptext3_any (k n st it fl ui sz : Int) (tg tx : ByteArray) (P : Option Addr) (l : List UInt8) (c : Nat) (w : World) (hb : Bys w w.heap.size P l) (hl : l.length ≤ 100000) (hc : l.length ≤ c) (hS : Std w) :
    Calls Tryd.prog 55 #[.agg #[.int .i64 k, .int .u32 n, .string tg, .int .i64 st, .string tx, .int .i64 it, .int .u8 fl, .int .u32 ui, .int .u32 sz, .slice P l.length c]] w fun e w' => e = .returned (.string (ofL ([66, 79, 68, 89, 91, 93, 32] ++ litB l))) ∧ Below w.heap.size w w' := by
  have HD := Lib.hid (fun W (hW : Below w.heap.size w W) => literal_any P c l W ((hb.below hW).more hW.size) (by omega) hc (hS.below hW))
  have hdl : (ofL (litB l)).size ≤ 100100 := by have := litB_len l (by omega); rw [ofL_size]; omega
  have HE : Hid (ofL ([66, 79, 68, 89, 91, 93, 32] ++ litB l) = ⟨#[66, 79, 68, 89, 91, 93, 32]⟩ ++ ofL (litB l)) := Lib.hid (by rw [← ofL_append]; rfl)
  rw [HE.out]
  generalize litB l = ls at *
  generalize hds : ofL ls = ds at *
  have HDS := Lib.hid hds
  clear hds
  generalize l.length = bl at *
  clear hS HE hb hc
  go_enter Tryd.func55, Tryd.ntmps55
  go_wp2_with fail
  refine (HD.out _ ((Below.refl _ _).alloc (Nat.le_refl _) _)).mono ?_
  rintro e w1 ⟨v, rfl, hbuf, hb⟩
  obtain ⟨p2, c2, rfl, -, hbys⟩ := hbuf.bys
  have HCV : Hid ((convert 24 9 (.slice p2 ls.length c2)).run Tryd.prog w1 = .ok (.string ds) w1) := Lib.hid (by rw [← HDS.out]; exact conv_bys (P := Tryd.prog) hbys c2 Tryd.underlying24 Tryd.underlying5 Tryd.underlying9)
  have HB : Hid (Below w.heap.size w w1) := Lib.hid (((Below.refl _ _).alloc (Nat.le_refl _) _).trans (hb.mono (by rw [World.size_alloc]; omega)))
  clear hb hbuf hbys
  clear HDS
  generalize ls.length = m at *
  have hcv := HCV.out
  clear HCV
  go_wp2_with fail
  go_ret
  exact ⟨rfl, HB.out⟩
end Go.Proofs.YtgdhakkfddmkjaaDoor
namespace Go.Proofs.YtgdhakkfddmkjaaDoor
open Go.RowKit
def fdL0 : List (List UInt8) := []
def fdL1 (b1 : Bool) (x0 : List UInt8) : List (List UInt8) := optW b1 x0
def fdL2 (b1 b2 : Bool) (x0 x1 : List UInt8) : List (List UInt8) := optW b1 x0 ++ optW b2 x1
def fdL3 (b1 b2 b4 : Bool) (x0 x1 x2 : List UInt8) : List (List UInt8) := optW b1 x0 ++ (optW b2 x1 ++ optW b4 x2)
def fdL4 (b1 b2 b4 b16 : Bool) (x0 x1 x2 x3 : List UInt8) : List (List UInt8) := optW b1 x0 ++ (optW b2 x1 ++ (optW b4 x2 ++ optW b16 x3))
theorem fdL_len : fdL0.length = 0 := rfl
/-- The words so far, and that nothing that stood has turned. -/
def FdSt (w1 : World) (L : List (List UInt8)) (v : Value) (wr : World) : Prop := Buf wr w1.heap.size 1 v L.length (stV L) ∧ Below w1.heap.size w1 wr
def FdRel (w1 : World) (x0 x1 x2 x3 : List UInt8) (b1 b2 b4 b16 : Bool) (v i : Value) (wr : World) : Prop :=
  (i = .int .i64 0 ∧ FdSt w1 fdL0 v wr) ∨ (i = .int .i64 1 ∧ FdSt w1 (fdL1 b1 x0) v wr) ∨ (i = .int .i64 2 ∧ FdSt w1 (fdL2 b1 b2 x0 x1) v wr) ∨ (i = .int .i64 3 ∧ FdSt w1 (fdL3 b1 b2 b4 x0 x1 x2) v wr) ∨ (i = .int .i64 4 ∧ FdSt w1 (fdL4 b1 b2 b4 b16 x0 x1 x2 x3) v wr)
theorem prt0 {w : World} {g : Nat} (h : Blk w g 65 prtC) : w.cell? ⟨g, 0, none⟩ = some (.int .i64 1) ∧ w.cell? ⟨g, 1, none⟩ = some (.func (.func 48) #[] #[]) ∧ w.cell? ⟨g, 2, none⟩ = some (.func (.func 49) #[] #[]) := by
  refine ⟨?_, ?_, ?_⟩ <;> · rw [h.cell]; rfl
theorem prt1 {w : World} {g : Nat} (h : Blk w g 65 prtC) : w.cell? ⟨g, 3, none⟩ = some (.int .i64 2) ∧ w.cell? ⟨g, 4, none⟩ = some (.func (.func 50) #[] #[]) ∧ w.cell? ⟨g, 5, none⟩ = some (.func (.func 52) #[] #[]) := by
  refine ⟨?_, ?_, ?_⟩ <;> · rw [h.cell]; rfl
theorem prt2 {w : World} {g : Nat} (h : Blk w g 65 prtC) : w.cell? ⟨g, 6, none⟩ = some (.int .i64 4) ∧ w.cell? ⟨g, 7, none⟩ = some (.func (.func 53) #[] #[]) ∧ w.cell? ⟨g, 8, none⟩ = some (.func (.func 54) #[] #[]) := by
  refine ⟨?_, ?_, ?_⟩ <;> · rw [h.cell]; rfl
theorem prt3 {w : World} {g : Nat} (h : Blk w g 65 prtC) : w.cell? ⟨g, 9, none⟩ = some (.int .i64 16) ∧ w.cell? ⟨g, 10, none⟩ = some (.func (.func 55) #[] #[]) ∧ w.cell? ⟨g, 11, none⟩ = some (.func (.func 57) #[] #[]) := by
  refine ⟨?_, ?_, ?_⟩ <;> · rw [h.cell]; rfl
end Go.Proofs.YtgdhakkfddmkjaaDoor
namespace Go.Proofs.YtgdhakkfddmkjaaDoor
open Go.RowKit

theorem Blk.far3 {w : World} {g b i : Nat} {t : TypeId} {cs : Array Value} (h : Blk w g t cs) (hp : g ≠ b) (u : Value) : Blk (w.setCell ⟨b, i, none⟩ u) g t cs := h.far hp u
theorem Blk.drewd {w : World} {g : Nat} {t : TypeId} {cs : Array Value} (h : Blk w g t cs) : Blk w.drew g t cs := h
theorem blk_c0 {W : World} {g : Nat} {t : TypeId} {a : Value} {cs : Array Value} (h : Blk W g t cs) (ha : cs[0]? = some a := by rfl) : W.cell? ⟨g, 0, none⟩ = some a := by rw [h.cell]; exact ha
theorem below_call {w W W' : World} (h : Below w.heap.size w W) (k : Below W.heap.size W W') : Below w.heap.size w W' := h.trans (k.mono h.size)
theorem below_new {w W : World} (h : Below w.heap.size w W) (o : Obj) : Below w.heap.size w (W.alloc o) := h.alloc h.size o
theorem load_ten {w : World} {g : Nat} {a0 a1 a2 a3 a4 a5 a6 a7 a8 a9 : Value} (h : Blk w g 26 #[a0, a1, a2, a3, a4, a5, a6, a7, a8, a9]) :
    (loadVar 26 ⟨g, 0, none⟩).run Tryd.prog w = .ok (.agg #[a0, a1, a2, a3, a4, a5, a6, a7, a8, a9]) w := by
  obtain ⟨⟨c0, c1, c2, c3, c4, c5, c6, c7, c8, c9⟩, -⟩ := Blk.ten h
  simp [go_sem, c0, c1, c2, c3, c4, c5, c6, c7, c8, c9]
theorem results_ten2 {fn : Func} {p u : Tmp} (hr : fn.results = #[.cell p 26, .tmp u]) {tmps : Array Value} {w : World} {g : Nat} {b a0 a1 a2 a3 a4 a5 a6 a7 a8 a9 : Value} (hp : tmps.getD p undef = .pointer (some ⟨g, 0, none⟩)) (hu : tmps.getD u undef = b)
    (h : Blk w g 26 #[a0, a1, a2, a3, a4, a5, a6, a7, a8, a9]) :
    (results fn tmps).run Tryd.prog w = .ok (.tuple #[.agg #[a0, a1, a2, a3, a4, a5, a6, a7, a8, a9], b]) w := by
  rw [results_cell_tmp hr, hp, hu, show (asAddr (.pointer (some ⟨g, 0, none⟩))).run Tryd.prog w = .ok ⟨g, 0, none⟩ w from rfl]
  simp only [Result.andThen]
  rw [load_ten h]
theorem results_ten1 {fn : Func} {p : Tmp} (hr : fn.results = #[.cell p 26]) {tmps : Array Value} {w : World} {g : Nat} {a0 a1 a2 a3 a4 a5 a6 a7 a8 a9 : Value} (hp : tmps.getD p undef = .pointer (some ⟨g, 0, none⟩))
    (h : Blk w g 26 #[a0, a1, a2, a3, a4, a5, a6, a7, a8, a9]) :
    (results fn tmps).run Tryd.prog w = .ok (.agg #[a0, a1, a2, a3, a4, a5, a6, a7, a8, a9]) w := by
  have e : (results fn tmps).run Tryd.prog w = ((asAddr (tmps.getD p undef)).run Tryd.prog w).andThen fun a w₁ => (loadVar 26 a).run Tryd.prog w₁ := by
    simp only [results, hr]
    simp [Sem.run_bind, Result.andThen]
  rw [e, hp, show (asAddr (.pointer (some ⟨g, 0, none⟩))).run Tryd.prog w = .ok ⟨g, 0, none⟩ w from rfl]
  simp only [Result.andThen]
  rw [load_ten h]
end Go.Proofs.YtgdhakkfddmkjaaDoor
