/- The walks of heapSort and reverseRange at unsigned numbers. -/
import Derived.Test.YtpcffnhbodjpbaaGreatDoorSrt2
set_option linter.unusedVariables false
set_option linter.unusedSimpArgs false
namespace Go.Proofs.YtpcffnhbodjpbaaGreatDoor
open Go.RowKit Go.Sort

theorem sift_size (hi first r : Nat) (d : Array Int) : (siftDown ltInt hi first r d).size = d.size := by
  induction h : hi - r using Nat.strongRecOn generalizing r d with
  | ind k ih =>
    by_cases h1 : 2 * r + 1 ≥ hi
    · rw [sift_out h1]
    · by_cases h2 : 2 * r + 1 + 1 < hi ∧ ltInt d[first + (2 * r + 1)]! d[first + (2 * r + 1) + 1]! = true
      · rw [sift_two h2.1 h2.2]
        split
        · rfl
        · rw [ih (hi - (2 * r + 2)) (by omega) _ _ rfl, swp_size]
      · rw [sift_one h1 (fun h => by
          cases hl : ltInt d[first + (2 * r + 1)]! d[first + (2 * r + 1) + 1]! with
          | false => rfl
          | true => exact absurd ⟨h, hl⟩ h2)]
        split
        · rfl
        · rw [ih (hi - (2 * r + 1)) (by omega) _ _ rfl, swp_size]

set_option maxRecDepth 100000 in
set_option maxHeartbeats 3200000 in
theorem heap_u32 (blk off cap a b : Nat) (d : Array Int) (w : World) (h : Holds (Value.int .u32) w blk off d) (hab : a ≤ b) (hb : b ≤ d.size) (hd : d.size ≤ 1048576) (hcap : d.size ≤ cap) :
    Calls Tryz.prog 90 #[.slice (some ⟨blk, off, none⟩) d.size cap, .int .i64 a, .int .i64 b] w fun e w' => (∃ v, e = .returned v) ∧ SP w blk off (heapSort ltInt d a b) w' := by
  obtain ⟨n, hn⟩ : ∃ n, d.size = n := ⟨_, rfl⟩
  obtain ⟨hi, hhi⟩ : ∃ hi, b - a = hi := ⟨_, rfl⟩
  have HS := Lib.hid (And.intro (SP.start h) (And.intro hn hhi))
  have HC := Lib.hid (fun (k : Nat) (dk : Array Int) (wk : World) (hk : dk.size = n) (lo hi2 : Nat) (hl : lo ≤ 1048576) (hh : a + hi2 ≤ n) (hsp : SP w blk off dk wk) => by
    have := sift_u32 blk off cap lo hi2 a dk wk hsp.1 (by omega) hl (by omega) (by omega)
    rw [hk] at this
    exact this)
  have hsum : a + hi ≤ n := by omega
  have hba : (b : Int) - a = (hi : Int) := by omega
  obtain ⟨q, hq⟩ : ∃ q, (hi - 1) / 2 = q := ⟨_, rfl⟩
  have hqd : Int.tdiv ((hi : Int) - 1) 2 = (q : Int) := by
    rcases Nat.eq_zero_or_pos hi with h0 | h0
    · subst h0
      simp at hq
      subst hq
      decide
    · rw [Int.tdiv_eq_ediv_of_nonneg (by omega)]
      omega
  have HQ := Lib.hid hq
  rw [hn] at hb hd hcap ⊢
  clear h hn hhi hq
  have hd1 : (n : Int) ≤ 1048576 := by omega
  have hb1 : (b : Int) ≤ n := by omega
  have ha1 : (a : Int) ≤ b := by omega
  have hh1 : (hi : Int) ≤ 1048576 := by omega
  have hq1 : (q : Int) ≤ 1048576 := by have := HQ.out; omega
  go_enter Tryz.func90, Tryz.ntmps90
  go_wp2_with fail
  go_loopw [9] (fun i wr => ∃ (k : Nat) (dk : Array Int), i = .int .i64 ((k : Int) - 1) ∧ k ≤ q + 1 ∧ dk.size = n ∧ SP w blk off dk wr ∧ heapBuild ltInt hi a k dk = heapBuild ltInt hi a (q + 1) d) (fun i _ => (intOf i + 1).toNat)
  case atStart => exact ⟨q + 1, d, by go_num, Nat.le_refl _, HS.out.2.1, HS.out.1, rfl⟩
  case round =>
    obtain ⟨k, dk, rfl, hk, hdk, hsp, hh⟩ := hrel
    have HO := Lib.hid (And.intro hdk (And.intro hsp hh))
    clear hdk hsp hh
    by_cases h0 : 0 < k
    · obtain ⟨k, rfl⟩ : ∃ j, k = j + 1 := ⟨k - 1, by omega⟩
      have e1 : ((k + 1 : Nat) : Int) - 1 = (k : Int) := by omega
      rw [e1]
      have hk1 : (k : Int) ≤ q := by omega
      clear e1
      go_wp2_with fail
      refine (HC.out k dk _ HO.out.1 k hi (by omega) (by omega) HO.out.2.1).mono ?_
      rintro e w1 ⟨⟨v, rfl⟩, hs⟩
      have HP := Lib.hid hs
      clear hs
      go_wp2_with fail
      refine ⟨⟨k, siftDown ltInt hi a k dk, by first | rfl | go_num, by omega, by rw [sift_size]; exact HO.out.1, HO.out.2.1.trans HP.out, ?_⟩, by simp [intOf]⟩
      rw [← HO.out.2.2]
      rfl
    · obtain rfl : k = 0 := by omega
      have HD : Hid (dk = heapBuild ltInt hi a (q + 1) d) := Lib.hid (by rw [← HO.out.2.2]; rfl)
      have e1 : ((0 : Nat) : Int) - 1 = -1 := rfl
      rw [e1]
      clear e1
      obtain ⟨wo, rfl⟩ : ∃ wo : World, wo = wr := ⟨_, rfl⟩
      go_wp2_with fail
      go_loopw [10] (fun i wr => ∃ (k : Nat) (dm : Array Int), i = .int .i64 ((k : Int) - 1) ∧ k ≤ hi ∧ dm.size = n ∧ SP w blk off dm wr ∧ heapPop ltInt a k dm = heapPop ltInt a hi dk) (fun i _ => (intOf i + 1).toNat)
      case atStart => exact ⟨hi, dk, by first | rfl | go_num, Nat.le_refl _, HO.out.1, HO.out.2.1, rfl⟩
      case round =>
        obtain ⟨k, dm, rfl, hk, hdm, hsp, hp⟩ := hrel
        by_cases h0 : 0 < k
        · obtain ⟨k, rfl⟩ : ∃ j, k = j + 1 := ⟨k - 1, by omega⟩
          have e1 : ((k + 1 : Nat) : Int) - 1 = (k : Int) := by omega
          rw [e1]
          obtain ⟨c0, f0⟩ := hsp.1 a (by omega)
          obtain ⟨c1, f1⟩ := hsp.1 (a + k) (by omega)
          obtain ⟨x0, hx0⟩ : ∃ x, dm[a]! = x := ⟨_, rfl⟩
          obtain ⟨x1, hx1⟩ : ∃ x, dm[a + k]! = x := ⟨_, rfl⟩
          rw [hx0] at c0
          rw [hx1] at c1
          have hk1 : (k : Int) < hi := by omega
          have i1 : (0 : Int) ≤ (a : Int) + k := by omega
          have i2 : (a : Int) + k < n := by omega
          have i3 : (a : Int) < n := by omega
          have HM := Lib.hid (And.intro hdm (And.intro hsp (And.intro hp (And.intro hx0 hx1))))
          obtain ⟨y, hy⟩ := cell?_setCell_some (w := wr) (p := ⟨blk, off + a, none⟩) (x := .int .u32 x1) (q := ⟨blk, off + (a + k), none⟩) (v := .int .u32 x1) c1
          clear e1 hdm hsp hp hx0 hx1
          go_wp2_with fail
          go_region
          all_goals
            go_wp2_with fail
            obtain ⟨hdm, hsp, hp, hx0, hx1⟩ := HM.out
            have hsw := fun W (hW : SP w blk off dm W) => hW.swp (i := a) (j := a + k) (by omega) (by omega)
            rw [hx0, hx1] at hsw
            have HW := Lib.hid (And.intro hsw (And.intro hsp (And.intro hdm hp)))
            clear hsw hsp hdm hp hx0 hx1
            refine (HC.out 0 (swp dm a (a + k)) _ (by rw [swp_size]; exact HW.out.2.2.1) 0 k (by omega) (by omega) (by first | exact (HW.out.1 _ HW.out.2.1).drew | exact HW.out.1 _ HW.out.2.1.drew)).mono ?_
            rintro e w1 ⟨⟨v, rfl⟩, hs⟩
            have HP := Lib.hid hs
            clear hs
            go_wp2_with fail
            refine ⟨⟨k, siftDown ltInt k a 0 (swp dm a (a + k)), by first | rfl | go_num, by omega, by rw [sift_size, swp_size]; exact HW.out.2.2.1, SP.trans (by first | exact (HW.out.1 _ HW.out.2.1).drew | exact HW.out.1 _ HW.out.2.1.drew) HP.out, ?_⟩, by simp [intOf]⟩
            rw [← HW.out.2.2.2]
            rfl
        · obtain rfl : k = 0 := by omega
          have HD2 : Hid (dm = heapPop ltInt a hi dk ∧ SP w blk off dm wr) := Lib.hid ⟨by rw [← hp]; rfl, hsp⟩
          have hz : decide ((0 : Int) ≤ ((0 : Nat) : Int) - 1) = false := by decide
          clear hdm hsp hp
          go_wp2_with fail
          go_end0
          refine ⟨⟨_, rfl⟩, ?_⟩
          unfold heapSort
          rw [HS.out.2.2, HQ.out, ← HD.out, ← HD2.out.1]
          exact HD2.out.2
end Go.Proofs.YtpcffnhbodjpbaaGreatDoor
