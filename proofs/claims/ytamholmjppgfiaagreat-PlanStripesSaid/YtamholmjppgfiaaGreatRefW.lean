/- The reference of sets and views: Valid, Has, Numbers, Seqs, UIDs. -/
import Derived.Test.YtamholmjppgfiaaGreatSeqW
set_option linter.unusedVariables false
set_option linter.unusedSimpArgs false
namespace Go.Proofs.YtamholmjppgfiaaGreat
open Go Go.RowKit Go.Shelf Go.Lib Go.Sort

def badR (top : Nat) (r : Rng) : Bool := decide (top < r.lo) || decide (top < r.hi)
theorem valid_bad (top : Nat) (l : List Rng) : validB top l = (decide (0 < top) && decide (0 < l.length) && !l.any (badR top)) := by
  unfold validB
  cases l with
  | nil => simp
  | cons a t =>
    simp only [List.isEmpty_cons, Bool.not_false, Bool.and_true, List.length_cons, Nat.zero_lt_succ, decide_true]
    congr 1
    rw [Bool.eq_iff_iff, Bool.not_eq_true', List.all_eq_true, List.any_eq_false]
    refine forall₂_congr fun r _ => ?_
    unfold badR
    simp only [Bool.and_eq_true, Bool.or_eq_true, decide_eq_true_eq]
    omega
set_option maxRecDepth 100000 in
set_option maxHeartbeats 1600000 in
theorem ref_valid (top : Nat) (l : List Rng) (v : Value) (w : World) (h : RgL w w.heap.size v l) (hl : l.length ≤ 1048576) :
    Calls Tryz.prog 41 #[.int .u32 top, v] w fun e w' => e = .returned (.bool (validB top l)) ∧ w' = w := by
  obtain ⟨A, cap, rfl, hcap, hc⟩ := h
  obtain ⟨n, hn⟩ : ∃ n, l.length = n := ⟨_, rfl⟩
  have HV := Lib.hid (valid_bad top l)
  rw [hn] at hcap hc hl HV ⊢
  rw [HV.out]
  have HN := Lib.hid hn
  have HC := Lib.hid hc
  clear hn hc
  have hnI : (n : Int) ≤ 1048576 := by omega
  go_enter Tryz.func41, Tryz.ntmps41
  go_wp2_with fail
  go_loopw [5] (fun i wr => ∃ k : Nat, k ≤ n ∧ i = .int .i64 k ∧ (l.take k).any (badR top) = false ∧ wr = w) (fun i _ => n - (intOf i).toNat)
  case atStart => exact ⟨0, Nat.zero_le _, rfl, by simp, rfl⟩
  case round =>
    obtain ⟨k, hk, rfl, hbad, rfl⟩ := hrel
    have hkI : (k : Int) ≤ n := by omega
    by_cases hlt : k < n
    · have hltI : (k : Int) < n := by omega
      have hkl : k < l.length := by have := HN.out; omega
      obtain ⟨⟨a, c⟩, hre⟩ : ∃ r, l[k] = r := ⟨_, rfl⟩
      have hr : l[k]? = some ⟨a, c⟩ := by rw [List.getElem?_eq_getElem hkl, hre]
      obtain ⟨b, o, rfl, -, hcl⟩ := HC.out (by omega)
      obtain ⟨c0, c1⟩ := hcl k _ hr
      simp only at c0 c1
      have HB := Lib.hid (And.intro hbad (And.intro hre hr))
      clear hbad hre hr hcl
      by_cases ha : top < a
      · have haI : (top : Int) < a := by omega
        go_wp2_with fail
        go_ret
        refine ⟨?_, rfl⟩
        have : l.any (badR top) = true := List.any_eq_true.2 ⟨⟨a, c⟩, List.mem_of_getElem? HB.out.2.2, by unfold badR; simp [ha]⟩
        rw [this]
        simp
      · have haI : decide ((top : Int) < a) = false := decide_eq_false (by omega)
        have haP : ¬ ((top : Int) < a) := by omega
        by_cases hcc : top < c
        · have hcI : (top : Int) < c := by omega
          go_wp2_with fail
          go_ret
          refine ⟨?_, rfl⟩
          have : l.any (badR top) = true := List.any_eq_true.2 ⟨⟨a, c⟩, List.mem_of_getElem? HB.out.2.2, by unfold badR; simp [hcc]⟩
          rw [this]
          simp
        · have hcI : decide ((top : Int) < c) = false := decide_eq_false (by omega)
          have hcP : ¬ ((top : Int) < c) := by omega
          go_wp2_with fail
          go_roundw
          case rel =>
            refine ⟨k + 1, by omega, by go_num, ?_, by first | rfl | trivial⟩
            rw [List.take_succ_eq_append_getElem hkl, List.any_append, HB.out.1, HB.out.2.1]
            unfold badR
            simp [ha, hcc]
          case measure => simp [intOf]; omega
    · obtain rfl : k = n := by omega
      rw [List.take_of_length_le (by have := HN.out; omega)] at hbad
      have HB := Lib.hid hbad
      clear hbad
      rcases Nat.eq_zero_or_pos k with h0 | h0
      · subst h0
        go_wp2_with fail
        go_ret
        exact ⟨by simp, rfl⟩
      · have h0I : (0 : Int) < k := by omega
        have H0 := Lib.hid (decide_eq_true h0)
        have ht : (decide ((0 : Int) < (top : Int))) = decide (0 < top) := by
          by_cases h : 0 < top
          · rw [decide_eq_true h, decide_eq_true (by omega)]
          · rw [decide_eq_false h, decide_eq_false (by omega)]
        go_wp2_with fail
        go_ret
        exact ⟨by rw [HB.out, H0.out]; simp, rfl⟩
set_option maxHeartbeats 400000 in
theorem ref_real (top n : Nat) (w : World) : Calls Tryz.prog 61 #[.int .u32 top, .int .u32 n] w fun e w' => e = .returned (.int .u32 (realN top n : Nat)) ∧ w' = w := by
  unfold realN
  by_cases h : n = 0
  · subst h
    go_enter Tryz.func61, Tryz.ntmps61
    go_wp2_with fail
    go_ret
    exact ⟨rfl, rfl⟩
  · rw [if_neg h]
    have hz : ((n : Int) == 0) = false := by simp; omega
    go_enter Tryz.func61, Tryz.ntmps61
    go_wp2_with fail
    go_ret
    exact ⟨rfl, rfl⟩
set_option maxRecDepth 100000 in
set_option maxHeartbeats 1600000 in
theorem ref_has (top x : Nat) (l : List Rng) (v : Value) (w : World) (h : RgL w w.heap.size v l) (hl : l.length ≤ 1048576) :
    Calls Tryz.prog 53 #[.int .u32 top, .int .u32 x, v] w fun e w' => e = .returned (.bool (hasB top x l)) ∧ w' = w := by
  have HVa := Lib.hid (ref_valid top l v w h hl)
  obtain ⟨A, cap, rfl, hcap, hc⟩ := h
  obtain ⟨n, hn⟩ : ∃ n, l.length = n := ⟨_, rfl⟩
  unfold hasB
  rw [hn] at hcap hc hl HVa ⊢
  have HN := Lib.hid hn
  have HC := Lib.hid hc
  clear hn hc
  have hnI : (n : Int) ≤ 1048576 := by omega
  cases hv : validB top l with
  | false =>
    rw [hv] at HVa
    clear hv
    go_enter Tryz.func53, Tryz.ntmps53
    go_wp2_with fail
    refine HVa.out.mono ?_
    rintro e w' ⟨rfl, rfl⟩
    go_wp2_with fail
    go_ret
    exact ⟨rfl, rfl⟩
  | true =>
    rw [hv] at HVa
    clear hv
    rw [Bool.true_and]
    go_enter Tryz.func53, Tryz.ntmps53
    go_wp2_with fail
    refine HVa.out.mono ?_
    rintro e w' ⟨rfl, rfl⟩
    go_wp2_with fail
    go_loopw [7] (fun i wr => ∃ k : Nat, k ≤ n ∧ i = .int .i64 k ∧ ((l.take k).any fun r => inR x (plainR top r)) = false ∧ wr = w') (fun i _ => n - (intOf i).toNat)
    case atStart => exact ⟨0, Nat.zero_le _, rfl, by simp, rfl⟩
    case round =>
      obtain ⟨k, hk, rfl, hno, rfl⟩ := hrel
      have hkI : (k : Int) ≤ n := by omega
      by_cases hlt : k < n
      · have hltI : (k : Int) < n := by omega
        have hkl : k < l.length := by have := HN.out; omega
        obtain ⟨⟨a, c⟩, hre⟩ : ∃ r, l[k] = r := ⟨_, rfl⟩
        have hr : l[k]? = some ⟨a, c⟩ := by rw [List.getElem?_eq_getElem hkl, hre]
        obtain ⟨b, o, rfl, -, hcl⟩ := HC.out (by omega)
        obtain ⟨c0, c1⟩ := hcl k _ hr
        simp only at c0 c1
        have HB := Lib.hid (And.intro hno (And.intro hre hr))
        obtain ⟨a2, ha2⟩ : ∃ a2, realN top a = a2 := ⟨_, rfl⟩
        obtain ⟨c2, hc2⟩ : ∃ c2, realN top c = c2 := ⟨_, rfl⟩
        have HR1 := Lib.hid (ref_real top a wr)
        have HR2 := Lib.hid (ref_real top c wr)
        rw [ha2] at HR1
        rw [hc2] at HR2
        obtain ⟨mn, hmn⟩ : ∃ mn, min a2 c2 = mn := ⟨_, rfl⟩
        obtain ⟨mx, hmx⟩ : ∃ mx, max a2 c2 = mx := ⟨_, rfl⟩
        have hmnI : min (a2 : Int) (c2 : Int) = (mn : Int) := by omega
        have hmxI : max (a2 : Int) (c2 : Int) = (mx : Int) := by omega
        have HP : Hid (plainR top ⟨a, c⟩ = ⟨mn, mx⟩) := Lib.hid (by unfold plainR; simp only [ha2, hc2, hmn, hmx])
        clear hno hre hr hcl ha2 hc2 hmn hmx
        by_cases h1 : mn ≤ x
        · have h1I : (mn : Int) ≤ x := by omega
          by_cases h2 : x ≤ mx
          · have h2I : (x : Int) ≤ mx := by omega
            go_wp2_with (first
              | (go_at_call 61; refine HR1.out.mono ?_; rintro e w' ⟨rfl, rfl⟩)
              | (go_at_call 61; refine HR2.out.mono ?_; rintro e w' ⟨rfl, rfl⟩))
            go_ret
            refine ⟨?_, rfl⟩
            have : (l.any fun r => inR x (plainR top r)) = true := List.any_eq_true.2 ⟨⟨a, c⟩, List.mem_of_getElem? HB.out.2.2, by rw [HP.out]; unfold inR; simp [h1, h2]⟩
            rw [this]
            rfl
          · have h2I : decide ((x : Int) ≤ mx) = false := decide_eq_false (by omega)
            have h2P : ¬ ((x : Int) ≤ mx) := by omega
            go_wp2_with (first
              | (go_at_call 61; refine HR1.out.mono ?_; rintro e w' ⟨rfl, rfl⟩)
              | (go_at_call 61; refine HR2.out.mono ?_; rintro e w' ⟨rfl, rfl⟩))
            go_roundw
            case rel =>
              refine ⟨k + 1, by omega, by go_num, ?_, by first | rfl | trivial⟩
              rw [List.take_succ_eq_append_getElem hkl, List.any_append, HB.out.1, HB.out.2.1]
              simp [HP.out, inR, h2]
            case measure => simp [intOf]; omega
        · have h1I : decide ((mn : Int) ≤ x) = false := decide_eq_false (by omega)
          have h1P : ¬ ((mn : Int) ≤ x) := by omega
          go_wp2_with (first
            | (go_at_call 61; refine HR1.out.mono ?_; rintro e w' ⟨rfl, rfl⟩)
            | (go_at_call 61; refine HR2.out.mono ?_; rintro e w' ⟨rfl, rfl⟩))
          go_roundw
          case rel =>
            refine ⟨k + 1, by omega, by go_num, ?_, by first | rfl | trivial⟩
            rw [List.take_succ_eq_append_getElem hkl, List.any_append, HB.out.1, HB.out.2.1]
            simp [HP.out, inR, h1]
          case measure => simp [intOf]; omega
      · obtain rfl : k = n := by omega
        rw [List.take_of_length_le (by have := HN.out; omega)] at hno
        have HB := Lib.hid hno
        clear hno
        go_wp2_with fail
        go_ret
        exact ⟨by rw [HB.out]; rfl, rfl⟩
end Go.Proofs.YtamholmjppgfiaaGreat
