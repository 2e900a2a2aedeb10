/- The walks of siftDown and heapSort at unsigned numbers. -/
import Derived.Test.YtpcffnhbodjpbaaGreatDoorSrt1
set_option linter.unusedVariables false
set_option linter.unusedSimpArgs false
namespace Go.Proofs.YtpcffnhbodjpbaaGreatDoor
open Go.RowKit Go.Sort

theorem sift_out {hi first r : Nat} {d : Array Int} (h : 2 * r + 1 ≥ hi) : siftDown ltInt hi first r d = d := by unfold siftDown; rw [dif_pos h]
theorem sift_two {hi first r : Nat} {d : Array Int} (h : 2 * r + 1 + 1 < hi) (hl : ltInt d[first + (2 * r + 1)]! d[first + (2 * r + 1) + 1]! = true) :
    siftDown ltInt hi first r d = if !ltInt d[first + r]! d[first + (2 * r + 2)]! then d else siftDown ltInt hi first (2 * r + 2) (swp d (first + r) (first + (2 * r + 2))) := by
  conv => lhs; unfold siftDown
  rw [dif_neg (by omega), if_pos (by rw [decide_eq_true h, hl]; rfl), dif_pos (by omega)]
theorem sift_one {hi first r : Nat} {d : Array Int} (h : ¬ 2 * r + 1 ≥ hi) (hl : 2 * r + 1 + 1 < hi → ltInt d[first + (2 * r + 1)]! d[first + (2 * r + 1) + 1]! = false) :
    siftDown ltInt hi first r d = if !ltInt d[first + r]! d[first + (2 * r + 1)]! then d else siftDown ltInt hi first (2 * r + 1) (swp d (first + r) (first + (2 * r + 1))) := by
  conv => lhs; unfold siftDown
  rw [dif_neg h, if_neg (by
    by_cases h2 : 2 * r + 1 + 1 < hi
    · rw [hl h2, Bool.and_false]; simp
    · rw [decide_eq_false h2, Bool.false_and]; simp)]

set_option maxRecDepth 100000 in
set_option maxHeartbeats 3200000 in
theorem sift_u32 (blk off cap lo hi first : Nat) (d : Array Int) (w : World) (h : Holds (Value.int .u32) w blk off d) (hb : first + hi ≤ d.size) (hlo : lo ≤ 1048576) (hd : d.size ≤ 1048576) (hcap : d.size ≤ cap) :
    Calls Tryz.prog 116 #[.slice (some ⟨blk, off, none⟩) d.size cap, .int .i64 lo, .int .i64 hi, .int .i64 first] w fun e w' => (∃ v, e = .returned v) ∧ SP w blk off (siftDown ltInt hi first lo d) w' := by
  obtain ⟨n, hn⟩ : ∃ n, d.size = n := ⟨_, rfl⟩
  have HS := Lib.hid (And.intro (SP.start h) hn)
  rw [hn] at hb hd hcap ⊢
  clear h hn
  have hb1 : (first : Int) + hi ≤ n := by omega
  have hd1 : (n : Int) ≤ 1048576 := by omega
  go_enter Tryz.func116, Tryz.ntmps116
  go_wp2_with fail
  go_loopw [8] (fun i wr => ∃ (r : Nat) (dk : Array Int), i = .int .i64 r ∧ r ≤ 1048576 ∧ dk.size = n ∧ SP w blk off dk wr ∧ siftDown ltInt hi first r dk = siftDown ltInt hi first lo d) (fun i _ => hi - (intOf i).toNat)
  case atStart => exact ⟨lo, d, rfl, hlo, HS.out.2, HS.out.1, rfl⟩
  case round =>
    obtain ⟨r, dk, rfl, hr, hdk, hsp, hs⟩ := hrel
    have hr1 : (r : Int) ≤ 1048576 := by omega
    obtain ⟨c, hc⟩ : ∃ c, 2 * r + 1 = c := ⟨_, rfl⟩
    have hcI : 2 * (r : Int) + 1 = (c : Int) := by omega
    have hc2 : (c : Int) ≤ 2097153 := by omega
    by_cases hlt : hi ≤ c
    · have HO := Lib.hid (And.intro hdk (And.intro hsp (And.intro hs hc)))
      have t1 : (hi : Int) ≤ c := by omega
      clear hdk hsp hs hc
      go_wp2_with fail
      go_end0
      obtain ⟨hdk, hsp, hs, hc⟩ := HO.out
      refine ⟨⟨_, rfl⟩, ?_⟩
      rw [← hs, sift_out (by omega)]
      exact hsp
    · obtain ⟨cr, fr⟩ := hsp.1 (first + r) (by omega)
      obtain ⟨c1, f1⟩ := hsp.1 (first + c) (by omega)
      obtain ⟨xr, hxr⟩ : ∃ x, dk[first + r]! = x := ⟨_, rfl⟩
      obtain ⟨x1, hx1⟩ : ∃ x, dk[first + c]! = x := ⟨_, rfl⟩
      rw [hxr] at cr
      rw [hx1] at c1
      have t0 : decide ((hi : Int) ≤ c) = false := decide_eq_false (by omega)
      have t0n : decide (hi ≤ c) = false := decide_eq_false (by omega)
      have i1 : (0 : Int) ≤ (first : Int) + c := by omega
      have i2 : (first : Int) + c < n := by omega
      have i3 : (0 : Int) ≤ (first : Int) + r := by omega
      have i4 : (first : Int) + r < n := by omega
      by_cases h2 : c + 1 < hi
      · obtain ⟨c2, f2⟩ := hsp.1 (first + c + 1) (by omega)
        obtain ⟨x2, hx2⟩ : ∃ x, dk[first + c + 1]! = x := ⟨_, rfl⟩
        rw [hx2] at c2
        have c2' : wr.cell? ⟨blk, off + (first + (c + 1)), none⟩ = some (.int .u32 x2) := c2
        have f2' : wr.frozen? ⟨blk, off + (first + (c + 1)), none⟩ = false := f2
        have t2 : decide ((c : Int) + 1 < hi) = true := decide_eq_true (by omega)
        have t2n : decide (c + 1 < hi) = true := decide_eq_true (by omega)
        have i5 : (0 : Int) ≤ (first : Int) + c + 1 := by omega
        have i6 : (first : Int) + c + 1 < n := by omega
        have i7 : (0 : Int) ≤ (first : Int) + ((c : Int) + 1) := by omega
        have i8 : (first : Int) + ((c : Int) + 1) < n := by omega
        have HO := Lib.hid (And.intro hdk (And.intro hsp (And.intro hs (And.intro hc (And.intro hxr (And.intro hx1 hx2))))))
        clear hdk hsp hs hc hxr hx1 hx2
        cases hl1 : ltInt x1 x2 with
        | true =>
          have HLT := Lib.hid hl1
          cases hl2 : ltInt xr x2 with
          | true =>
            have HL2 := Lib.hid hl2
            go_wp2_with fail
            go_quiet ((go_at_call 95; first | exact Calls.quiet_of_same (less_u32 _ _ _) | exact quietA (less_u32 _ _ _)))
            go_wp2_with fail
            go_quiet ((go_at_call 95; first | exact Calls.quiet_of_same (less_u32 _ _ _) | exact quietA (less_u32 _ _ _)))
            go_wp2_with fail
            go_region
            all_goals
              go_wp2_with fail
              obtain ⟨hdk, hsp, hs, hc, hxr, hx1, hx2⟩ := HO.out
              have hq := sift_two (hi := hi) (first := first) (r := r) (d := dk) (by omega) (by rw [hc, hx1, hx2]; exact HLT.out)
              refine ⟨⟨c + 1, swp dk (first + r) (first + (2 * r + 2)), by first | rfl | go_num, by omega, by rw [swp_size]; exact hdk, ?_, ?_⟩, by simp [intOf]; omega⟩
              · rw [show first + (2 * r + 2) = first + c + 1 by omega]
                have h := fun W (hW : SP w blk off dk W) => hW.swp (i := first + r) (j := first + c + 1) (by omega) (by omega)
                rw [hxr, hx2] at h
                first | exact h _ (hsp.drewN _) | exact h _ ((hsp.drewN _).drewN _) | exact h _ (((hsp.drewN _).drewN _).drewN _)
              · rw [← hs, hq, show first + (2 * r + 2) = first + c + 1 by omega, hxr, hx2, HL2.out, show 2 * r + 2 = c + 1 by omega]
                rfl
          | false =>
            have HL2 := Lib.hid hl2
            go_wp2_with fail
            go_quiet ((go_at_call 95; first | exact Calls.quiet_of_same (less_u32 _ _ _) | exact quietA (less_u32 _ _ _)))
            go_wp2_with fail
            go_quiet ((go_at_call 95; first | exact Calls.quiet_of_same (less_u32 _ _ _) | exact quietA (less_u32 _ _ _)))
            go_wp2_with fail
            refine bodyPost_ret (results_none rfl _ _ _) rfl ?_
            obtain ⟨hdk, hsp, hs, hc, hxr, hx1, hx2⟩ := HO.out
            have hq := sift_two (hi := hi) (first := first) (r := r) (d := dk) (by omega) (by rw [hc, hx1, hx2]; exact HLT.out)
            refine ⟨⟨_, rfl⟩, ?_⟩
            rw [← hs, hq, show first + (2 * r + 2) = first + c + 1 by omega, hxr, hx2, HL2.out, if_pos (by rfl)]
            first | exact hsp.drewN _ | exact (hsp.drewN _).drewN _
        | false =>
          have HLT := Lib.hid hl1
          cases hl2 : ltInt xr x1 with
          | true =>
            have HL2 := Lib.hid hl2
            go_wp2_with fail
            go_quiet ((go_at_call 95; first | exact Calls.quiet_of_same (less_u32 _ _ _) | exact quietA (less_u32 _ _ _)))
            go_wp2_with fail
            go_quiet ((go_at_call 95; first | exact Calls.quiet_of_same (less_u32 _ _ _) | exact quietA (less_u32 _ _ _)))
            go_wp2_with fail
            go_region
            all_goals
              go_wp2_with fail
              obtain ⟨hdk, hsp, hs, hc, hxr, hx1, hx2⟩ := HO.out
              have hq := sift_one (hi := hi) (first := first) (r := r) (d := dk) (by omega) (fun _ => by rw [hc, hx1, hx2]; exact HLT.out)
              refine ⟨⟨c, swp dk (first + r) (first + (2 * r + 1)), by first | rfl | go_num, by omega, by rw [swp_size]; exact hdk, ?_, ?_⟩, by simp [intOf]; omega⟩
              · rw [show first + (2 * r + 1) = first + c by omega]
                have h := fun W (hW : SP w blk off dk W) => hW.swp (i := first + r) (j := first + c) (by omega) (by omega)
                rw [hxr, hx1] at h
                first | exact h _ (hsp.drewN _) | exact h _ ((hsp.drewN _).drewN _) | exact h _ (((hsp.drewN _).drewN _).drewN _)
              · rw [← hs, hq, show first + (2 * r + 1) = first + c by omega, hxr, hx1, HL2.out, show 2 * r + 1 = c by omega]
                rfl
          | false =>
            have HL2 := Lib.hid hl2
            go_wp2_with fail
            go_quiet ((go_at_call 95; first | exact Calls.quiet_of_same (less_u32 _ _ _) | exact quietA (less_u32 _ _ _)))
            go_wp2_with fail
            go_quiet ((go_at_call 95; first | exact Calls.quiet_of_same (less_u32 _ _ _) | exact quietA (less_u32 _ _ _)))
            go_wp2_with fail
            refine bodyPost_ret (results_none rfl _ _ _) rfl ?_
            obtain ⟨hdk, hsp, hs, hc, hxr, hx1, hx2⟩ := HO.out
            have hq := sift_one (hi := hi) (first := first) (r := r) (d := dk) (by omega) (fun _ => by rw [hc, hx1, hx2]; exact HLT.out)
            refine ⟨⟨_, rfl⟩, ?_⟩
            rw [← hs, hq, show first + (2 * r + 1) = first + c by omega, hxr, hx1, HL2.out, if_pos (by rfl)]
            first | exact hsp.drewN _ | exact (hsp.drewN _).drewN _
      · have t2 : decide ((c : Int) + 1 < hi) = false := decide_eq_false (by omega)
        have t2n : decide (c + 1 < hi) = false := decide_eq_false (by omega)
        have HO := Lib.hid (And.intro hdk (And.intro hsp (And.intro hs (And.intro hc (And.intro hxr hx1)))))
        clear hdk hsp hs hc hxr hx1
        cases hl2 : ltInt xr x1 with
        | true =>
          have HL2 := Lib.hid hl2
          go_wp2_with fail
          go_quiet ((go_at_call 95; first | exact Calls.quiet_of_same (less_u32 _ _ _) | exact quietA (less_u32 _ _ _)))
          go_wp2_with fail
          go_quiet ((go_at_call 95; first | exact Calls.quiet_of_same (less_u32 _ _ _) | exact quietA (less_u32 _ _ _)))
          go_wp2_with fail
          go_region
          all_goals
            go_wp2_with fail
            obtain ⟨hdk, hsp, hs, hc, hxr, hx1⟩ := HO.out
            have hq := sift_one (hi := hi) (first := first) (r := r) (d := dk) (by omega) (fun h => absurd h (by omega))
            refine ⟨⟨c, swp dk (first + r) (first + (2 * r + 1)), by first | rfl | go_num, by omega, by rw [swp_size]; exact hdk, ?_, ?_⟩, by simp [intOf]; omega⟩
            · rw [show first + (2 * r + 1) = first + c by omega]
              have h := fun W (hW : SP w blk off dk W) => hW.swp (i := first + r) (j := first + c) (by omega) (by omega)
              rw [hxr, hx1] at h
              first | exact h _ (hsp.drewN _) | exact h _ ((hsp.drewN _).drewN _) | exact h _ (((hsp.drewN _).drewN _).drewN _)
            · rw [← hs, hq, show first + (2 * r + 1) = first + c by omega, hxr, hx1, HL2.out, show 2 * r + 1 = c by omega]
              rfl
        | false =>
          have HL2 := Lib.hid hl2
          go_wp2_with fail
          go_quiet ((go_at_call 95; first | exact Calls.quiet_of_same (less_u32 _ _ _) | exact quietA (less_u32 _ _ _)))
          go_wp2_with fail
          go_quiet ((go_at_call 95; first | exact Calls.quiet_of_same (less_u32 _ _ _) | exact quietA (less_u32 _ _ _)))
          go_wp2_with fail
          refine bodyPost_ret (results_none rfl _ _ _) rfl ?_
          obtain ⟨hdk, hsp, hs, hc, hxr, hx1⟩ := HO.out
          have hq := sift_one (hi := hi) (first := first) (r := r) (d := dk) (by omega) (fun h => absurd h (by omega))
          refine ⟨⟨_, rfl⟩, ?_⟩
          rw [← hs, hq, show first + (2 * r + 1) = first + c by omega, hxr, hx1, HL2.out, if_pos (by rfl)]
          first | exact hsp.drewN _ | exact (hsp.drewN _).drewN _
end Go.Proofs.YtpcffnhbodjpbaaGreatDoor
