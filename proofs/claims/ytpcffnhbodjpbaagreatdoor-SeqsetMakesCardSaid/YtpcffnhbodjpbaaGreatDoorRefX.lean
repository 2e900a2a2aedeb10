/- resolve.Seqs and UIDs. The reference of sets and views: Valid, Has, Numbers, Seqs, UIDs. The reference of sets and views: Numbers, Seqs, UIDs. -/
import Derived.Test.YtpcffnhbodjpbaaGreatDoorResW
set_option linter.unusedVariables false
set_option linter.unusedSimpArgs false
namespace Go.Proofs.YtpcffnhbodjpbaaGreatDoor
open Go Go.RowKit Go.Shelf Go.Lib Go.Sort

theorem numsOf_mem {top n : Nat} {l : List Rng} (h : n ∈ numsOf top l) : 1 ≤ n ∧ n ≤ top := by
  unfold numsOf at h
  split at h
  · exact nums_mem.1 (List.mem_filter.1 h).1
  · simp at h
def i64N (n : Nat) : Value := .int .i64 (n : Nat)
/-- The identifiers of a set. -/
def uidsOf (vl : List Int) (l : List Rng) : List Int := (numsOf vl.length l).map fun n => vl[n - 1]!
end Go.Proofs.YtpcffnhbodjpbaaGreatDoor

namespace Go.Proofs.YtpcffnhbodjpbaaGreatDoor
open Go Go.RowKit Go.Shelf Go.Lib Go.Sort

def badR (top : Nat) (r : Rng) : Bool := decide (top < r.lo) || decide (top < r.hi)
theorem valid_bad (top : Nat) (l : List Rng) : validB top l = (decide (0 < top) && decide (0 < l.length) && !l.any (badR top)) := by
  unfold validB
  cases l with
  | nil => simp
  | cons a t =>
    simp only [List.isEmpty_cons, Bool.not_false, Bool.and_true, List.length_cons, Nat.zero_lt_succ, decide_true]
    congr 1
    rw [Bool.eq_iff_iff, Bool.not_eq_true', List.all_eq_true, List.any_eq_false]
    refine forall₂_congr fun r _ => ?_
    unfold badR
    simp only [Bool.and_eq_true, Bool.or_eq_true, decide_eq_true_eq]
    omega
set_option maxRecDepth 100000 in
set_option maxHeartbeats 1600000 in
theorem ref_valid (top : Nat) (l : List Rng) (v : Value) (w : World) (h : RgL w w.heap.size v l) (hl : l.length ≤ 1048576) :
    Calls Tryz.prog 15 #[.int .u32 top, v] w fun e w' => e = .returned (.bool (validB top l)) ∧ w' = w := by
  obtain ⟨A, cap, rfl, hcap, hc⟩ := h
  obtain ⟨n, hn⟩ : ∃ n, l.length = n := ⟨_, rfl⟩
  have HV := Lib.hid (valid_bad top l)
  rw [hn] at hcap hc hl HV ⊢
  rw [HV.out]
  have HN := Lib.hid hn
  have HC := Lib.hid hc
  clear hn hc
  have hnI : (n : Int) ≤ 1048576 := by omega
  go_enter Tryz.func15, Tryz.ntmps15
  go_wp2_with fail
  go_loopw [5] (fun i wr => ∃ k : Nat, k ≤ n ∧ i = .int .i64 k ∧ (l.take k).any (badR top) = false ∧ wr = w) (fun i _ => n - (intOf i).toNat)
  case atStart => exact ⟨0, Nat.zero_le _, rfl, by simp, rfl⟩
  case round =>
    obtain ⟨k, hk, rfl, hbad, rfl⟩ := hrel
    have hkI : (k : Int) ≤ n := by omega
    by_cases hlt : k < n
    · have hltI : (k : Int) < n := by omega
      have hkl : k < l.length := by have := HN.out; omega
      obtain ⟨⟨a, c⟩, hre⟩ : ∃ r, l[k] = r := ⟨_, rfl⟩
      have hr : l[k]? = some ⟨a, c⟩ := by rw [List.getElem?_eq_getElem hkl, hre]
      obtain ⟨b, o, rfl, -, hcl⟩ := HC.out (by omega)
      obtain ⟨c0, c1⟩ := hcl k _ hr
      simp only at c0 c1
      have HB := Lib.hid (And.intro hbad (And.intro hre hr))
      clear hbad hre hr hcl
      by_cases ha : top < a
      · have haI : (top : Int) < a := by omega
        go_wp2_with fail
        go_ret
        refine ⟨?_, rfl⟩
        have : l.any (badR top) = true := List.any_eq_true.2 ⟨⟨a, c⟩, List.mem_of_getElem? HB.out.2.2, by unfold badR; simp [ha]⟩
        rw [this]
        simp
      · have haI : decide ((top : Int) < a) = false := decide_eq_false (by omega)
        have haP : ¬ ((top : Int) < a) := by omega
        by_cases hcc : top < c
        · have hcI : (top : Int) < c := by omega
          go_wp2_with fail
          go_ret
          refine ⟨?_, rfl⟩
          have : l.any (badR top) = true := List.any_eq_true.2 ⟨⟨a, c⟩, List.mem_of_getElem? HB.out.2.2, by unfold badR; simp [hcc]⟩
          rw [this]
          simp
        · have hcI : decide ((top : Int) < c) = false := decide_eq_false (by omega)
          have hcP : ¬ ((top : Int) < c) := by omega
          go_wp2_with fail
          go_roundw
          case rel =>
            refine ⟨k + 1, by omega, by go_num, ?_, by first | rfl | trivial⟩
            rw [List.take_succ_eq_append_getElem hkl, List.any_append, HB.out.1, HB.out.2.1]
            unfold badR
            simp [ha, hcc]
          case measure => simp [intOf]; omega
    · obtain rfl : k = n := by omega
      rw [List.take_of_length_le (by have := HN.out; omega)] at hbad
      have HB := Lib.hid hbad
      clear hbad
      rcases Nat.eq_zero_or_pos k with h0 | h0
      · subst h0
        go_wp2_with fail
        go_ret
        exact ⟨by simp, rfl⟩
      · have h0I : (0 : Int) < k := by omega
        have H0 := Lib.hid (decide_eq_true h0)
        have ht : (decide ((0 : Int) < (top : Int))) = decide (0 < top) := by
          by_cases h : 0 < top
          · rw [decide_eq_true h, decide_eq_true (by omega)]
          · rw [decide_eq_false h, decide_eq_false (by omega)]
        go_wp2_with fail
        go_ret
        exact ⟨by rw [HB.out, H0.out]; simp, rfl⟩
set_option maxHeartbeats 400000 in
theorem ref_real (top n : Nat) (w : World) : Calls Tryz.prog 37 #[.int .u32 top, .int .u32 n] w fun e w' => e = .returned (.int .u32 (realN top n : Nat)) ∧ w' = w := by
  unfold realN
  by_cases h : n = 0
  · subst h
    go_enter Tryz.func37, Tryz.ntmps37
    go_wp2_with fail
    go_ret
    exact ⟨rfl, rfl⟩
  · rw [if_neg h]
    have hz : ((n : Int) == 0) = false := by simp; omega
    go_enter Tryz.func37, Tryz.ntmps37
    go_wp2_with fail
    go_ret
    exact ⟨rfl, rfl⟩
set_option maxRecDepth 100000 in
set_option maxHeartbeats 1600000 in
theorem ref_has (top x : Nat) (l : List Rng) (v : Value) (w : World) (h : RgL w w.heap.size v l) (hl : l.length ≤ 1048576) :
    Calls Tryz.prog 23 #[.int .u32 top, .int .u32 x, v] w fun e w' => e = .returned (.bool (hasB top x l)) ∧ w' = w := by
  have HVa := Lib.hid (ref_valid top l v w h hl)
  obtain ⟨A, cap, rfl, hcap, hc⟩ := h
  obtain ⟨n, hn⟩ : ∃ n, l.length = n := ⟨_, rfl⟩
  unfold hasB
  rw [hn] at hcap hc hl HVa ⊢
  have HN := Lib.hid hn
  have HC := Lib.hid hc
  clear hn hc
  have hnI : (n : Int) ≤ 1048576 := by omega
  cases hv : validB top l with
  | false =>
    rw [hv] at HVa
    clear hv
    go_enter Tryz.func23, Tryz.ntmps23
    go_wp2_with fail
    refine HVa.out.mono ?_
    rintro e w' ⟨rfl, rfl⟩
    go_wp2_with fail
    go_ret
    exact ⟨rfl, rfl⟩
  | true =>
    rw [hv] at HVa
    clear hv
    rw [Bool.true_and]
    go_enter Tryz.func23, Tryz.ntmps23
    go_wp2_with fail
    refine HVa.out.mono ?_
    rintro e w' ⟨rfl, rfl⟩
    go_wp2_with fail
    go_loopw [7] (fun i wr => ∃ k : Nat, k ≤ n ∧ i = .int .i64 k ∧ ((l.take k).any fun r => inR x (plainR top r)) = false ∧ wr = w') (fun i _ => n - (intOf i).toNat)
    case atStart => exact ⟨0, Nat.zero_le _, rfl, by simp, rfl⟩
    case round =>
      obtain ⟨k, hk, rfl, hno, rfl⟩ := hrel
      have hkI : (k : Int) ≤ n := by omega
      by_cases hlt : k < n
      · have hltI : (k : Int) < n := by omega
        have hkl : k < l.length := by have := HN.out; omega
        obtain ⟨⟨a, c⟩, hre⟩ : ∃ r, l[k] = r := ⟨_, rfl⟩
        have hr : l[k]? = some ⟨a, c⟩ := by rw [List.getElem?_eq_getElem hkl, hre]
        obtain ⟨b, o, rfl, -, hcl⟩ := HC.out (by omega)
        obtain ⟨c0, c1⟩ := hcl k _ hr
        simp only at c0 c1
        have HB := Lib.hid (And.intro hno (And.intro hre hr))
        obtain ⟨a2, ha2⟩ : ∃ a2, realN top a = a2 := ⟨_, rfl⟩
        obtain ⟨c2, hc2⟩ : ∃ c2, realN top c = c2 := ⟨_, rfl⟩
        have HR1 := Lib.hid (ref_real top a wr)
        have HR2 := Lib.hid (ref_real top c wr)
        rw [ha2] at HR1
        rw [hc2] at HR2
        obtain ⟨mn, hmn⟩ : ∃ mn, min a2 c2 = mn := ⟨_, rfl⟩
        obtain ⟨mx, hmx⟩ : ∃ mx, max a2 c2 = mx := ⟨_, rfl⟩
        have hmnI : min (a2 : Int) (c2 : Int) = (mn : Int) := by omega
        have hmxI : max (a2 : Int) (c2 : Int) = (mx : Int) := by omega
        have HP : Hid (plainR top ⟨a, c⟩ = ⟨mn, mx⟩) := Lib.hid (by unfold plainR; simp only [ha2, hc2, hmn, hmx])
        clear hno hre hr hcl ha2 hc2 hmn hmx
        by_cases h1 : mn ≤ x
        · have h1I : (mn : Int) ≤ x := by omega
          by_cases h2 : x ≤ mx
          · have h2I : (x : Int) ≤ mx := by omega
            go_wp2_with (first
              | (go_at_call 37; refine HR1.out.mono ?_; rintro e w' ⟨rfl, rfl⟩)
              | (go_at_call 37; refine HR2.out.mono ?_; rintro e w' ⟨rfl, rfl⟩))
            go_ret
            refine ⟨?_, rfl⟩
            have : (l.any fun r => inR x (plainR top r)) = true := List.any_eq_true.2 ⟨⟨a, c⟩, List.mem_of_getElem? HB.out.2.2, by rw [HP.out]; unfold inR; simp [h1, h2]⟩
            rw [this]
            rfl
          · have h2I : decide ((x : Int) ≤ mx) = false := decide_eq_false (by omega)
            have h2P : ¬ ((x : Int) ≤ mx) := by omega
            go_wp2_with (first
              | (go_at_call 37; refine HR1.out.mono ?_; rintro e w' ⟨rfl, rfl⟩)
              | (go_at_call 37; refine HR2.out.mono ?_; rintro e w' ⟨rfl, rfl⟩))
            go_roundw
            case rel =>
              refine ⟨k + 1, by omega, by go_num, ?_, by first | rfl | trivial⟩
              rw [List.take_succ_eq_append_getElem hkl, List.any_append, HB.out.1, HB.out.2.1]
              simp [HP.out, inR, h2]
            case measure => simp [intOf]; omega
        · have h1I : decide ((mn : Int) ≤ x) = false := decide_eq_false (by omega)
          have h1P : ¬ ((mn : Int) ≤ x) := by omega
          go_wp2_with (first
            | (go_at_call 37; refine HR1.out.mono ?_; rintro e w' ⟨rfl, rfl⟩)
            | (go_at_call 37; refine HR2.out.mono ?_; rintro e w' ⟨rfl, rfl⟩))
          go_roundw
          case rel =>
            refine ⟨k + 1, by omega, by go_num, ?_, by first | rfl | trivial⟩
            rw [List.take_succ_eq_append_getElem hkl, List.any_append, HB.out.1, HB.out.2.1]
            simp [HP.out, inR, h1]
          case measure => simp [intOf]; omega
      · obtain rfl : k = n := by omega
        rw [List.take_of_length_le (by have := HN.out; omega)] at hno
        have HB := Lib.hid hno
        clear hno
        go_wp2_with fail
        go_ret
        exact ⟨by rw [HB.out]; rfl, rfl⟩
end Go.Proofs.YtpcffnhbodjpbaaGreatDoor

namespace Go.Proofs.YtpcffnhbodjpbaaGreatDoor
open Go Go.RowKit Go.Shelf Go.Lib Go.Sort

theorem numsOf_has (top : Nat) (l : List Rng) : (nums 1 top).filter (fun n => hasB top n l) = numsOf top l := by
  unfold numsOf
  cases hv : validB top l with
  | false =>
    rw [if_neg Bool.false_ne_true]
    rw [List.filter_eq_nil_iff]
    intro n _
    unfold hasB
    rw [hv]
    simp
  | true =>
    rw [if_pos rfl]
    apply List.filter_congr
    intro n _
    unfold hasB
    rw [hv, Bool.true_and, anyR_map]
set_option maxRecDepth 100000 in
set_option maxHeartbeats 1600000 in
theorem ref_numbers (top : Nat) (ht : top ≤ 1048576) (l : List Rng) (v : Value) (w : World) (h : RgL w w.heap.size v l) (hl : l.length ≤ 1048576) :
    Calls Tryz.prog 18 #[.int .u32 top, v] w fun e w' => ∃ v', e = .returned v' ∧ Buf w' w.heap.size 1 v' (numsOf top l).length ((numsOf top l).map n32) ∧ Below w.heap.size w w' := by
  have HE := Lib.hid (numsOf_has top l)
  rw [← HE.out]
  have HH := Lib.hid (fun n W (hb : Below w.heap.size w W) => ref_has top n l v W ((h.below hb (Nat.le_refl _)).mono hb.size) hl)
  clear h
  have htI : (top : Int) ≤ 1048576 := by omega
  go_enter Tryz.func18, Tryz.ntmps18
  go_wp2_with fail
  go_loopw [5, 6] (fun s5 i wr => ∃ (q : Nat) (sv : Value), sv = s5 ∧ i = .int .u32 q ∧ 1 ≤ q ∧ q ≤ top + 1 ∧ Buf wr w.heap.size 1 sv ((nums 1 (q - 1)).filter (fun n => hasB top n l)).length (((nums 1 (q - 1)).filter (fun n => hasB top n l)).map n32) ∧ Below w.heap.size w wr) (fun _ i _ => top + 1 - (intOf i).toNat)
  case atStart => exact ⟨1, _, rfl, rfl, Nat.le_refl _, by omega, Buf.nil _ _ _, Below.refl _ _⟩
  case round =>
    obtain ⟨q, sv, rfl, rfl, hq1, hq2, hbuf, hbel⟩ := hrel
    have hqI : (q : Int) ≤ top + 1 := by omega
    have hwr : IntKind.u32.wrap ((q : Int) + 1) = (q : Int) + 1 := by simp [IntKind.wrap, IntKind.bits, IntKind.signed]; omega
    by_cases hlt : q ≤ top
    · have hltI : (q : Int) ≤ top := by omega
      have HF := Lib.hid (HH.out q wr hbel)
      have hsn : nums 1 (q + 1 - 1) = nums 1 (q - 1) ++ [q] := by
        rw [show q + 1 - 1 = (q - 1) + 1 by omega, nums_snoc (by omega), show q - 1 + 1 = q by omega]
      have hlen : ((nums 1 (q - 1)).filter (fun n => hasB top n l)).length ≤ 1048576 := by
        have := List.length_filter_le (fun n => hasB top n l) (nums 1 (q - 1))
        rw [nums_len] at this
        omega
      have HS := Lib.hid (And.intro hsn hlen)
      have HB := Lib.hid (And.intro hbuf hbel)
      clear hsn hlen hbuf hbel
      cases hh : hasB top q l with
      | true =>
        have HT := Lib.hid hh
        rw [hh] at HF
        clear hh
        go_wp2_with fail
        refine HF.out.mono ?_
        rintro e w3 ⟨rfl, rfl⟩
        obtain ⟨g, o2, c2, w4, hrun, hb4, hbel4⟩ := push_one Tryz.underlying37 infoU32 rfl (by decide) HB.out.1 (.int .u32 (q : Nat)) rfl (HB.out.2.size) HS.out.2
        have HR := Lib.hid hrun
        have HE4 := Lib.hid (And.intro hb4 hbel4)
        clear hrun hb4 hbel4
        go_wp2_with (at_builtin; refine wpList_append_run _ rfl (.tmp 16) (.tmp 18) _ _ rfl _ _ rfl rfl _ _ HR.out ?_)
        go_roundw
        case rel =>
          refine ⟨q + 1, _, rfl, by go_num, by omega, by omega, ?_, HB.out.2.trans HE4.out.2⟩
          rw [HS.out.1, List.filter_append, List.filter_cons_of_pos (by exact HT.out), List.filter_nil, List.map_append, List.length_append]
          exact HE4.out.1
        case measure => simp [intOf]; omega
      | false =>
        have HT := Lib.hid hh
        rw [hh] at HF
        clear hh
        go_wp2_with fail
        refine HF.out.mono ?_
        rintro e w3 ⟨rfl, rfl⟩
        go_wp2_with fail
        go_roundw
        case rel =>
          refine ⟨q + 1, _, rfl, by go_num, by omega, by omega, ?_, HB.out.2⟩
          rw [HS.out.1, List.filter_append, List.filter_cons_of_neg (by rw [HT.out]; simp), List.filter_nil, List.append_nil]
          exact HB.out.1
        case measure => simp [intOf]; omega
    · obtain rfl : q = top + 1 := by omega
      have hltI : decide (((top + 1 : Nat) : Int) ≤ top) = false := decide_eq_false (by omega)
      have hltP : ¬ (((top + 1 : Nat) : Int) ≤ top) := by omega
      rw [Nat.add_sub_cancel] at hbuf
      have HB := Lib.hid (And.intro hbuf hbel)
      clear hbuf hbel
      go_wp2_with fail
      go_ret
      exact ⟨sv, rfl, HB.out.1, HB.out.2⟩

end Go.Proofs.YtpcffnhbodjpbaaGreatDoor
