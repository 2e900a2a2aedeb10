/- The walk of the reference's Parse. -/
import Derived.Test.YtbbfajjbpalfeaaDoorFlag6
import Derived.Laws.Strings2
namespace Go.Proofs.YtbbfajjbpalfeaaDoor
open Go.RowKit

theorem u8_ne {x : UInt8} {v : Nat} (hv : v < 256) (h : x ≠ UInt8.ofNat v) : ((x.toNat : Int) == (v : Int)) = false := by
  rw [beq_eq_false_iff_ne]
  intro e
  apply h
  apply UInt8.toNat_inj.1
  rw [UInt8.toNat_ofNat']
  omega
theorem u8_bne {x : UInt8} {v : Nat} (hv : v < 256) (h : x ≠ UInt8.ofNat v) : ((x.toNat : Int) != (v : Int)) = true := by
  have := u8_ne hv h
  simpa [bne] using this
theorem slice_str (s : ByteArray) (a b : Nat) (h1 : a ≤ b) (h2 : b ≤ s.size) (w : World) :
    (Instr.slice 9 (.string s) (some (.int .i64 a)) (some (.int .i64 b)) none).run Tryd.prog w = .ok (.string (s.extract a b)) w :=
  run_slice_string w 9 s .i64 .i64 a b Tryd.underlying9 (by omega) (by omega) (by omega)
/-- No blank at offsets a up to b. -/
abbrev NoSp (l : List UInt8) (a b : Nat) : Prop := ∀ j (hj : j < l.length), a ≤ j → j < b → l[j] ≠ 32
theorem NoSp.next {l : List UInt8} {a b : Nat} (h : NoSp l a b) (hb : b < l.length) (e : l[b] ≠ 32) : NoSp l a (b + 1) := fun j hj h1 h2 => by
  rcases Nat.lt_or_ge j b with h3 | h3
  · exact h j hj h1 h3
  · obtain rfl : j = b := by omega
    exact e
theorem NoSp.mem {l : List UInt8} {a b : Nat} (h : NoSp l a b) : (32 : UInt8) ∉ (l.drop a).take (b - a) := by
  intro hm
  obtain ⟨j, hj, e⟩ := List.getElem_of_mem hm
  rw [List.length_take, List.length_drop] at hj
  rw [List.getElem_take, List.getElem_drop] at e
  exact h (a + j) (by omega) (by omega) (by omega) e
theorem fold_hit {l : List UInt8} {a b x : Nat} {r : Option Nat} (h : NoSp l a b) (hab : a ≤ b) (hb : b < l.length) (e : l[b] = 32) (hf : foldF (splitOn 32 (l.drop a)) x = r) :
    (match flagVal ((l.drop a).take (b - a)) with | none => none | some v => foldF (splitOn 32 (l.drop (b + 1))) (x ||| v)) = r := by
  rw [← hf]
  have e1 : l.drop a = (l.drop a).take (b - a) ++ 32 :: l.drop (b + 1) := by
    conv => lhs; rw [← List.take_append_drop (b - a) (l.drop a)]
    rw [List.drop_drop, show a + (b - a) = b by omega, List.drop_eq_getElem_cons hb, e]
  conv => rhs; rw [e1, splitOn_hit h.mem, foldF]
  rfl
theorem fold_last {l : List UInt8} {a x : Nat} {r : Option Nat} (h : NoSp l a l.length) (hf : foldF (splitOn 32 (l.drop a)) x = r) :
    (match flagVal (l.drop a) with | none => none | some v => some (x ||| v)) = r := by
  rw [← hf]
  have e : (l.drop a).take (l.length - a) = l.drop a := List.take_of_length_le (by rw [List.length_drop]; omega)
  have h2 := h.mem
  rw [e] at h2
  rw [splitOn_last h2, foldF]
  rfl
/-- A list of bytes between brackets. -/
theorem inner_of {l : List UInt8} (h1 : l.head? = some 40) (h2 : l.tail.getLast? = some 41) : l = 40 :: (l.tail.dropLast ++ [41]) := by
  cases l with
  | nil => cases h1
  | cons x t =>
    injection h1 with h1
    subst h1
    show _ = 40 :: (t.dropLast ++ [41])
    have h2' : t.getLast? = some 41 := h2
    congr 1
    rcases List.eq_nil_or_concat t with rfl | ⟨a, b, rfl⟩
    · cases h2'
    · rw [List.concat_eq_append] at h2' ⊢
      rw [List.getLast?_append] at h2'
      simp only [List.getLast?_singleton, Option.some_or, Option.some.injEq] at h2'
      rw [List.dropLast_concat, h2']

theorem rFlagS (t : ByteArray) (wd : List UInt8) (r : Int) (ht : t.data.toList = wd) (hl : wd.length ≤ 1048576) (hr : (((flagVal wd).getD 0 : Nat) : Int) = r) (w : World) :
    Calls Tryd.prog 25 #[.string t] w fun e w' => e = .returned (.int .i64 r) ∧ Below w.heap.size w w' := by
  subst ht
  subst hr
  have := rFlag_any t.data.toList hl w
  rw [ofL_self] at this
  exact this
theorem extract_list (s : ByteArray) (a b : Nat) : (s.extract a b).data.toList = (s.data.toList.drop a).take (b - a) := by
  rw [Lib.extract_data]

set_option maxRecDepth 100000 in
set_option maxHeartbeats 1600000 in
theorem rParse_in (s : ByteArray) (inn : List UInt8) (w : World) (hs : s.data.toList = 40 :: (inn ++ [41])) (h0 : inn ≠ []) (hl : inn.length ≤ 1048576) :
    Calls Tryd.prog 14 #[.string s] w fun e w' => e = .returned (.int .i64 (chgV (foldF (splitOn 32 inn) 0))) ∧ Below w.heap.size w w' := by
  obtain ⟨n, hn⟩ : ∃ n, n = inn.length := ⟨_, rfl⟩
  have hsz : s.size = n + 2 := by
    rw [show s.size = s.data.toList.length by simp, hs, hn]; simp
  have hn0 : 1 ≤ n := by rw [hn]; exact List.length_pos_iff.2 h0
  have hne : (s.toList == [40, 41]) = false := by
    rw [beq_eq_false_iff_ne, ByteArray.toList_eq, hs]
    intro e
    injection e with _ e
    have := congrArg List.length e
    simp at this
    exact h0 this
  have g0 : ∀ (h : 0 < s.size), (s[0]'h).toNat = 40 := fun h => by
    have := byte_at s 0 h
    rw [← this]; simp [hs]
  obtain ⟨r, hr⟩ : ∃ r, foldF (splitOn 32 inn) 0 = r := ⟨_, rfl⟩
  rw [hr]
  have HR := Lib.hid hr
  have HS := Lib.hid hs
  have HN := Lib.hid hn
  have HSZ := Lib.hid hsz
  have hn5 : n ≤ 1048576 := by omega
  clear hr hs hn
  have k0 : 0 < s.size := by omega
  have k1 : n + 1 < s.size := by omega
  have c0 := g0 k0
  have c1 : (s[n + 1]'k1).toNat = 41 := by
    rw [← byte_at s (n + 1) k1]
    have e : s.data.toList[n + 1]? = some 41 := by
      rw [HS.out, List.getElem?_cons_succ, HN.out, List.getElem?_append_right (Nat.le_refl _)]
      simp
    have := (List.getElem?_eq_some_iff.1 e).2
    rw [this]; rfl
  have hle : s.size ≤ 1048578 := by omega
  clear g0 h0
  go_enter Tryd.func14, Tryd.ntmps14
  go_wp2_with fail
  clear c0 c1 hne hle
  have hel : ∀ i (hi : i < s.size) (hi0 : 0 < i) (hin : i ≤ n), (s[i]'hi).toNat = (inn[i - 1]'(by have := HN.out; omega)).toNat := fun i hi hi0 hin => by
    rw [← byte_at s i hi]
    have e : s.data.toList[i]? = inn[i - 1]? := by
      rw [HS.out]
      obtain ⟨j, rfl⟩ : ∃ j, i = j + 1 := ⟨i - 1, by omega⟩
      rw [List.getElem?_cons_succ, List.getElem?_append_left (by have := HN.out; omega)]; rfl
    have hil : i - 1 < inn.length := by have := HN.out; omega
    rw [List.getElem?_eq_getElem hil] at e
    rw [(List.getElem?_eq_some_iff.1 e).2]
  have HEL := Lib.hid hel
  have hex : ∀ fr i, 1 ≤ fr → fr ≤ i → i ≤ n + 1 → (s.extract fr i).data.toList = (inn.drop (fr - 1)).take (i - fr) := fun fr i h1 h2 h3 => by
    rw [extract_list, HS.out]
    obtain ⟨j, rfl⟩ : ∃ j, fr = j + 1 := ⟨fr - 1, by omega⟩
    rw [List.drop_succ_cons, List.drop_append_of_le_length (by have := HN.out; omega), List.take_append_of_le_length (by rw [List.length_drop]; have := HN.out; omega)]; rfl
  have HEX := Lib.hid hex
  clear hel hex
  go_loopw [4, 5, 6] (fun out f i wr => ∃ x fr k : Nat, 1 ≤ fr ∧ 1 ≤ k ∧ k ≤ n + 2 ∧ x < 32 ∧ out = .int .i64 x ∧ f = .int .i64 fr ∧ i = .int .i64 k ∧ Below w.heap.size w wr ∧
    (k < n + 2 → fr ≤ k ∧ NoSp inn (fr - 1) (k - 1) ∧ foldF (splitOn 32 (inn.drop (fr - 1))) x = r) ∧ (k = n + 2 → r = some x)) (fun _ _ i _ => n + 2 - (intOf i).toNat)
  case atStart => exact ⟨0, 1, 1, by omega, by omega, by omega, by omega, rfl, rfl, rfl, Below.refl _ _, fun _ => ⟨by omega, fun j hj h1 h2 => absurd h2 (by omega), HR.out⟩, fun h => absurd h (by omega)⟩
  case round =>
    obtain ⟨x, fr, k, hfr1, hk1, hk2, hx, rfl, rfl, rfl, hb, hin, hout⟩ := hrel
    have HB := Lib.hid hb
    by_cases hlt : k < n + 2
    · obtain ⟨hfk, hns, hf⟩ := hin hlt
      have HNS := Lib.hid hns
      have HF := Lib.hid hf
      have hki : k < s.size := by omega
      have hks : k ≤ s.size := by omega
      have HSL := Lib.hid (slice_str s fr k hfk hks wr)
      clear hin hout hns hf hb
      by_cases hkn : k ≤ n
      · have hc := HEL.out k hki (by omega) hkn
        have hkl : k - 1 < inn.length := by have := HN.out; omega
        by_cases h32 : inn[k - 1] = 32
        · have c32 : (s[k]'hki).toNat = 32 := by rw [hc, h32]; rfl
          have hfold := fold_hit HNS.out (by omega) hkl h32 HF.out
          rw [show k - 1 - (fr - 1) = k - fr by omega, show k - 1 + 1 = k by omega] at hfold
          have hwd := HEX.out fr k hfr1 hfk (by omega)
          have hwl : ((inn.drop (fr - 1)).take (k - fr)).length ≤ 1048576 := by rw [List.length_take, List.length_drop]; omega
          clear hc h32
          generalize (inn.drop (fr - 1)).take (k - fr) = wd at hfold hwd hwl
          cases hv : flagVal wd with
          | none =>
            rw [hv] at hfold
            have R : Hid (r = none) := Lib.hid hfold.symm
            have HC := Lib.hid (rFlagS (s.extract fr k) wd 0 hwd hwl (by rw [hv]; rfl) wr)
            clear hfold hwd hv
            go_wp2_with fail
            rw [HSL.out]
            simp only [Result.andThen]
            rw [Oper.upon_value]
            go_wp2_with fail
            refine HC.out.mono ?_
            rintro e w2 ⟨rfl, hb2⟩
            have HB2 := Lib.hid (HB.out.trans (hb2.mono HB.out.size))
            clear hb2
            go_wp2_with fail
            go_ret
            rw [R.out]
            exact ⟨rfl, HB2.out⟩
          | some v =>
            rw [hv] at hfold
            have hvv := flagVal_lt hv
            have hor := or_bits x v hx hvv.1
            have hor1 := hor.2.1
            have hor2 := hor.2.2
            have HC := Lib.hid (rFlagS (s.extract fr k) wd v hwd hwl (by rw [hv]; rfl) wr)
            have hv0 : ((v : Int) == 0) = false := by rw [beq_eq_false_iff_ne]; have := hvv.2; omega
            have HFO := Lib.hid (show foldF (splitOn 32 (inn.drop k)) (x ||| v) = r from hfold)
            clear hfold hwd hv hor
            generalize x ||| v = y at hor1 hor2 HFO
            go_wp2_with fail
            rw [HSL.out]
            simp only [Result.andThen]
            rw [Oper.upon_value]
            go_wp2_with fail
            refine HC.out.mono ?_
            rintro e w2 ⟨rfl, hb2⟩
            have HB2 := Lib.hid (HB.out.trans (hb2.mono HB.out.size))
            clear hb2
            go_wp2_with fail
            go_roundw
            case rel => exact ⟨y, k + 1, k + 1, by omega, by omega, by omega, hor2, rfl, by go_num, by go_num, HB2.out, fun _ => ⟨by omega, fun j hj h1 h2 => absurd h2 (by omega), HFO.out⟩, fun h => absurd h (by omega)⟩
            case measure => simp [intOf]; omega
        · have c32 : (((s[k]'hki).toNat : Int) != 32) = true := by
            rw [hc]
            exact u8_bne (v := 32) (by decide) h32
          have HN2 := Lib.hid (HNS.out.next hkl h32)
          have hkk : (k : Int) < n + 1 := by omega
          clear hc h32
          go_wp2_with fail
          go_roundw
          case rel => exact ⟨x, fr, k + 1, by omega, by omega, by omega, hx, rfl, rfl, by go_num, HB.out, fun _ => ⟨by omega, by have := HN2.out; rw [show k - 1 + 1 = k + 1 - 1 by omega] at this; exact this, HF.out⟩, fun h => absurd h (by omega)⟩
          case measure => simp [intOf]; omega
      · obtain rfl : k = n + 1 := by omega
        have HSL2 : Hid ((Instr.slice 9 (.string s) (some (.int .i64 fr)) (some (.int .i64 ((n : Int) + 1))) none).run Tryd.prog wr = .ok (.string (s.extract fr (n + 1))) wr) := Lib.hid (by have h := HSL.out; rw [show ((n + 1 : Nat) : Int) = (n : Int) + 1 by omega] at h; exact h)
        have hwd := HEX.out fr (n + 1) hfr1 hfk (by omega)
        have hns2 := HNS.out
        rw [show n + 1 - 1 = inn.length by have := HN.out; omega] at hns2
        have hfold := fold_last hns2 HF.out
        have c41 : (((s[n + 1]'hki).toNat : Int) != 32) = true := by
          have e : s.data.toList[n + 1]? = some 41 := by
            rw [HS.out, List.getElem?_cons_succ, HN.out, List.getElem?_append_right (Nat.le_refl _)]
            simp
          have e2 := (List.getElem?_eq_some_iff.1 e).2
          rw [← byte_at s (n + 1) hki, e2]; rfl
        rw [List.take_of_length_le (by rw [List.length_drop]; have := HN.out; omega)] at hwd
        have hwl : (inn.drop (fr - 1)).length ≤ 1048576 := by rw [List.length_drop]; omega
        clear hns2
        generalize inn.drop (fr - 1) = wd at hfold hwd hwl HF
        cases hv : flagVal wd with
        | none =>
          rw [hv] at hfold
          have R : Hid (r = none) := Lib.hid hfold.symm
          have HC := Lib.hid (rFlagS (s.extract fr (n + 1)) wd 0 hwd hwl (by rw [hv]; rfl) wr)
          clear hfold hwd hv
          go_wp2_with fail
          rw [HSL2.out]
          simp only [Result.andThen]
          rw [Oper.upon_value]
          go_wp2_with fail
          refine HC.out.mono ?_
          rintro e w2 ⟨rfl, hb2⟩
          have HB2 := Lib.hid (HB.out.trans (hb2.mono HB.out.size))
          clear hb2
          go_wp2_with fail
          go_ret
          rw [R.out]
          exact ⟨rfl, HB2.out⟩
        | some v =>
          rw [hv] at hfold
          have hvv := flagVal_lt hv
          have hor := or_bits x v hx hvv.1
          have hor1 := hor.2.1
          have hor2 := hor.2.2
          have HC := Lib.hid (rFlagS (s.extract fr (n + 1)) wd v hwd hwl (by rw [hv]; rfl) wr)
          have hv0 : ((v : Int) == 0) = false := by rw [beq_eq_false_iff_ne]; have := hvv.2; omega
          have HFO := Lib.hid (show some (x ||| v) = r from hfold)
          clear hfold hwd hv hor
          generalize x ||| v = y at hor1 hor2 HFO
          go_wp2_with fail
          rw [HSL2.out]
          simp only [Result.andThen]
          rw [Oper.upon_value]
          go_wp2_with fail
          refine HC.out.mono ?_
          rintro e w2 ⟨rfl, hb2⟩
          have HB2 := Lib.hid (HB.out.trans (hb2.mono HB.out.size))
          clear hb2
          go_wp2_with fail
          go_roundw
          case rel => exact ⟨y, n + 1 + 1, n + 1 + 1, by omega, by omega, by omega, hor2, rfl, by go_num, by go_num, HB2.out, fun h => absurd h (by omega), fun _ => HFO.out.symm⟩
          case measure => simp [intOf]; omega
    · obtain rfl : k = n + 2 := by omega
      have R := Lib.hid (hout rfl)
      clear hin hout hb
      go_wp2_with fail
      go_ret
      rw [R.out]
      exact ⟨rfl, HB.out⟩
set_option maxRecDepth 100000 in
set_option maxHeartbeats 1600000 in
theorem rParse_any (s : ByteArray) (w : World) (hl : s.size ≤ 1048576) :
    Calls Tryd.prog 14 #[.string s] w fun e w' => e = .returned (.int .i64 (chgV (parseF s.data.toList))) ∧ Below w.heap.size w w' := by
  by_cases h1 : s.data.toList.head? = some 40 ∧ s.data.toList.tail.getLast? = some 41
  · have hin := inner_of h1.1 h1.2
    by_cases h0 : s.data.toList.tail.dropLast = []
    · rw [h0] at hin
      obtain rfl : s = ⟨#[40, 41]⟩ := ba_ext hin
      rw [show chgV (parseF (ByteArray.mk #[40, 41]).data.toList) = 0 from by decide +kernel]
      clear h1 hin h0 hl
      go_enter Tryd.func14, Tryd.ntmps14
      go_wp2_with fail
      go_ret
      exact ⟨rfl, Below.refl _ _⟩
    · have R : parseF s.data.toList = foldF (splitOn 32 s.data.toList.tail.dropLast) 0 := by unfold parseF; rw [if_pos h1, if_neg h0]
      rw [R]
      refine rParse_in s _ w hin h0 ?_
      have : s.data.toList.length ≤ 1048576 := by simpa using hl
      rw [List.length_dropLast, List.length_tail]; omega
  · have R : parseF s.data.toList = none := by unfold parseF; rw [if_neg h1]
    rw [R, show chgV none = -1 from rfl]
    have hne : (s.toList == [40, 41]) = false := by
      rw [beq_eq_false_iff_ne, ByteArray.toList_eq]
      intro e
      rw [e] at h1
      exact h1 ⟨rfl, rfl⟩
    clear R
    by_cases h2 : s.size < 2
    · clear h1 hl
      go_enter Tryd.func14, Tryd.ntmps14
      go_wp2_with fail
      all_goals
        go_ret
        exact ⟨rfl, Below.refl _ _⟩
    · obtain ⟨n, hn⟩ : ∃ n, s.size = n + 2 := ⟨s.size - 2, by omega⟩
      have k0 : 0 < s.size := by omega
      have k1 : n + 1 < s.size := by omega
      have hsl : s.data.toList.length = n + 2 := by simpa using hn
      by_cases hq0 : s[0]'k0 = 40
      · have c0 : (s[0]'k0).toNat = 40 := by rw [hq0]; rfl
        have hq1 : s[n + 1]'k1 ≠ 41 := fun e => h1 ⟨by
            rw [← byte_at s 0 k0] at hq0
            rw [List.head?_eq_getElem?, List.getElem?_eq_getElem (by omega), hq0], by
            rw [← byte_at s (n + 1) k1] at e
            rw [List.getLast?_eq_getElem?, List.getElem?_tail, List.length_tail, hsl, show n + 2 - 1 - 1 + 1 = n + 1 by omega, List.getElem?_eq_getElem (by omega), e]⟩
        have c1 : (((s[n + 1]'k1).toNat : Int) != 41) = true := u8_bne (v := 41) (by decide) hq1
        clear h1 hq0 hq1 hsl h2
        go_enter Tryd.func14, Tryd.ntmps14
        go_wp2_with fail
        all_goals
          go_ret
          exact ⟨rfl, Below.refl _ _⟩
      · have c0 : (((s[0]'k0).toNat : Int) != 40) = true := u8_bne (v := 40) (by decide) hq0
        clear h1 hq0 hsl h2
        go_enter Tryd.func14, Tryd.ntmps14
        go_wp2_with fail
        all_goals
          go_ret
          exact ⟨rfl, Below.refl _ _⟩
end Go.Proofs.YtbbfajjbpalfeaaDoor
