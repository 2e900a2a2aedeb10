/- The walk of breakPatterns at unsigned numbers. -/
import Derived.Test.YtpcffnhbodjpbaaGreatDoorSrt7
set_option linter.unusedVariables false
set_option linter.unusedSimpArgs false
namespace Go.Proofs.YtpcffnhbodjpbaaGreatDoor
open Go.RowKit Go.Sort Go.Lib

/-- The row holds d; the box of the random number, laid after w, holds v. -/
def RP (w : World) (blk off : Nat) (d : Array Int) (v : Nat) (w' : World) : Prop :=
  SP w blk off d w' ∧ w'.cell? ⟨w.heap.size, 0, none⟩ = some (.int .u64 (v : Int)) ∧ w'.frozen? ⟨w.heap.size, 0, none⟩ = false
theorem RP.start {w : World} {blk off : Nat} {d : Array Int} (h : Holds (Value.int .u32) w blk off d) (hb : blk < w.heap.size) (t : TypeId) (L : Nat) : RP w blk off d L (w.alloc (.cells #[.int .u64 (L : Int)] t)) := by
  refine ⟨⟨fun j hj => ?_, grown_alloc (World.grownBy.refl _ _) _, (Dom.refl _).alloc _⟩, by simp, by simp⟩
  have e := (grown_alloc (World.grownBy.refl w none) (.cells #[.int .u64 (L : Int)] t)).block blk hb (by simp)
  obtain ⟨h1, h2⟩ := h j hj
  exact ⟨by rw [World.cell?_of_block (a := ⟨blk, off + j, none⟩) e]; exact h1, by rw [World.frozen?_of_block (a := ⟨blk, off + j, none⟩) e]; exact h2⟩
theorem RP.next {w W : World} {blk off v : Nat} {d : Array Int} (h : RP w blk off d v W) (hb : blk < w.heap.size) (u m : Nat) : RP w blk off d u ((W.setCell ⟨w.heap.size, 0, none⟩ (.int .u64 (u : Int))).drewN m) := by
  refine ⟨⟨fun j hj => ?_, grown_drewN (grown_new h.1.2 (Nat.le_refl _) _ _) _, h.1.3.put _ _⟩, ?_, ?_⟩
  · obtain ⟨h1, h2⟩ := h.1.1 j hj
    refine ⟨?_, ?_⟩
    · rw [World.cell?_drewN, World.cell?_setCell_other _ _ _ _ (fun e => by injection e with e _ _; omega)]
      exact h1
    · rw [World.frozen?_drewN, World.frozen?_setCell]
      exact h2
  · rw [World.cell?_drewN]
    exact World.cell?_setCell_same _ _ _ h.2.1
  · rw [World.frozen?_drewN, World.frozen?_setCell]
    exact h.2.2
theorem RP.drew {w W : World} {blk off v : Nat} {d : Array Int} (h : RP w blk off d v W) : RP w blk off d v W.drew := ⟨h.1.drew, h.2⟩
theorem RP.swp {w W : World} {blk off v i j : Nat} {d : Array Int} (h : RP w blk off d v W) (hb : blk < w.heap.size) (hi : i < d.size) (hj : j < d.size) : RP w blk off (swp d i j) v ((W.setCell ⟨blk, off + i, none⟩ (.int .u32 d[j]!)).setCell ⟨blk, off + j, none⟩ (.int .u32 d[i]!)) :=
  ⟨h.1.swp hi hj, by rw [World.cell?_setCell_other _ _ _ _ (fun e => by injection e with e _ _; omega), World.cell?_setCell_other _ _ _ _ (fun e => by injection e with e _ _; omega)]; exact h.2.1, by rw [World.frozen?_setCell, World.frozen?_setCell]; exact h.2.2⟩

set_option maxRecDepth 100000 in
set_option maxHeartbeats 3200000 in
theorem break_u32 (blk off cap a b : Nat) (d : Array Int) (w : World) (h : Holds (Value.int .u32) w blk off d) (hbk : blk < w.heap.size) (hab : a ≤ b) (hb : b ≤ d.size) (hd : d.size ≤ 1048576) :
    Calls Tryz.prog 91 #[.slice (some ⟨blk, off, none⟩) d.size cap, .int .i64 a, .int .i64 b] w fun e w' => (∃ v, e = .returned v) ∧ SP w blk off (breakPatterns d a b) w' := by
  obtain ⟨n, hn⟩ : ∃ n, d.size = n := ⟨_, rfl⟩
  obtain ⟨L, hL⟩ : ∃ L, b - a = L := ⟨_, rfl⟩
  have hLz : (b : Int) - (a : Int) = (L : Int) := by omega
  by_cases h8 : 8 ≤ L
  · have hz8 : (8 : Int) ≤ L := by omega
    obtain ⟨q, hq⟩ : ∃ q, L / 4 = q := ⟨_, rfl⟩
    have hqd : Int.tdiv (L : Int) 4 = (q : Int) := by rw [Int.tdiv_eq_ediv_of_nonneg (by omega)]; omega
    have hqe : (L : Int) / 4 = (q : Int) := by omega
    obtain ⟨M, hM⟩ : ∃ M : Nat, M = 1 <<< bitsLen L := ⟨_, rfl⟩
    have hM1 : 1 ≤ M := by rw [hM, Nat.one_shiftLeft]; exact Nat.two_pow_pos _
    have hM2 : M ≤ 2 * L := by rw [hM, Nat.one_shiftLeft]; exact two_pow_bitsLen_le (by omega)
    have hNP : Hid (∀ w, Calls Tryz.prog 112 #[.int .i64 (L : Int)] w fun e w' => e = .returned (.int .u64 (M : Int)) ∧ w' = w) := Lib.hid (by rw [hM]; exact fun w => pow_is L (by omega) w)
    obtain ⟨i0, hi0⟩ : ∃ i0, a + q * 2 - 1 = i0 := ⟨_, rfl⟩
    have HE : Hid (breakPatterns d a b = bpRest a L M i0 3 0 (UInt64.ofNat L, d)) := Lib.hid (by
      have := breakPatterns_eq d a L h8
      rw [show a + L = b by omega, hq, hi0, ← hM] at this
      exact this)
    rw [HE.out]
    have HS := Lib.hid (And.intro hn (RP.start h hbk 138 L))
    have haL : a + L ≤ n := by omega
    have hqL : q * 4 ≤ L := by omega
    have hqL2 : L < q * 4 + 4 := by omega
    have HI := Lib.hid (And.intro hi0 (And.intro haL (And.intro hqL (And.intro hqL2 (And.intro hM1 (And.intro hM2 h8))))))
    rw [hn] at hb hd ⊢
    have hL1 : (L : Int) ≤ 1048576 := by omega
    have hq1 : (q : Int) ≤ 1048576 := by omega
    have ha1 : (a : Int) ≤ 1048576 := by omega
    have hn1 : (n : Int) ≤ 1048576 := by omega
    have hM3 : (M : Int) ≤ 2097152 := by omega
    have hM4 : (1 : Int) ≤ M := by omega
    clear h hn hL hM hM1 hM2 hi0 hq haL hqL hqL2 h8 hab
    go_enter Tryz.func91, Tryz.ntmps91
    go_wp2_with fail
    refine (hNP.out _).mono ?_
    rintro e w' ⟨rfl, rfl⟩
    go_wp2_with fail
    go_loopw [9] (fun i wr => ∃ (t k : Nat) (r : UInt64) (dk : Array Int), i = .int .i64 k ∧ k = i0 + t ∧ t ≤ 3 ∧ dk.size = n ∧ RP w blk off dk r.toNat wr ∧ bpRest a L M i0 (3 - t) t (r, dk) = bpRest a L M i0 3 0 (UInt64.ofNat L, d)) (fun i _ => (i0 + 3 - (intOf i).toNat))
    case atStart =>
      refine ⟨0, i0, UInt64.ofNat L, d, by have := HI.out; congr 1; omega, rfl, by omega, HS.out.1, ?_, rfl⟩
      rw [show (UInt64.ofNat L).toNat = L from by simp; omega]
      exact HS.out.2
    case round =>
      obtain ⟨t, k, r, dk, rfl, hk, ht, hdk, hrp, hbp⟩ := hrel
      by_cases ht3 : t < 3
      · have hle : (k : Int) ≤ (a : Int) + (q : Int) * 2 + 1 := by have := HI.out; omega
        obtain ⟨R', hR'⟩ : ∃ R' : Nat, R' = xorNextN r.toNat := ⟨_, rfl⟩
        have lR' : R' < 18446744073709551616 := by rw [hR']; exact xorNextN_lt _ r.toNat_lt
        obtain ⟨O, hO⟩ : ∃ O : Nat, O = R' &&& (M - 1) := ⟨_, rfl⟩
        have lO : O ≤ M - 1 := by rw [hO]; exact Nat.and_le_right
        have eAnd : bits .and .u64 (R' : Int) ((M : Int) - 1) = (O : Int) := by
          rw [show ((M : Int) - 1) = ((M - 1 : Nat) : Int) by omega, bits_and_u64_nat _ _ lR' (by omega), hO]
        have hNext : Hid (Calls Tryz.prog 113 #[.pointer (some ⟨w.heap.size, 0, none⟩)] wr fun e w' => e = .returned (.int .u64 (R' : Int)) ∧ w' = (wr.setCell ⟨w.heap.size, 0, none⟩ (.int .u64 (R' : Int))).drewN 3) := Lib.hid (by
          rw [hR']; exact next_is _ _ r.toNat_lt wr hrp.2.1 hrp.2.2)
        have HN : Hid (R' = (xorNext r).toNat ∧ O = (xorNext r).toNat &&& (M - 1)) := by
          have e : R' = (xorNext r).toNat := by rw [hR', xorNext_toNat]
          exact ⟨e, by rw [hO, e]⟩
        have HW := Lib.hid (And.intro (hrp.next hbk R' 3) (And.intro hdk hbp))
        generalize hw2 : (wr.setCell ⟨w.heap.size, 0, none⟩ (.int .u64 (R' : Int))).drewN 3 = w2 at HW hNext
        have hO3 : (O : Int) ≤ 2097152 := by omega
        have hk3 : (k : Int) ≤ 1048576 := by have := HI.out; omega
        have HK := Lib.hid (And.intro hk lO)
        clear hR' hO hw2 hrp hbp lO lR' hdk hk
        by_cases hLO : L ≤ O
        · have hLOz : (L : Int) ≤ (O : Int) := by omega
          obtain ⟨o, ho⟩ : ∃ o, O - L = o := ⟨_, rfl⟩
          have hoz : (O : Int) - (L : Int) = (o : Int) := by omega
          have HO : Hid ((if (xorNext r).toNat &&& (M - 1) ≥ L then ((xorNext r).toNat &&& (M - 1)) - L else (xorNext r).toNat &&& (M - 1)) = o ∧ o < L) := Lib.hid ⟨by rw [← HN.out.2, if_pos (by omega)]; exact ho, by have := HK.out; have := HI.out; omega⟩
          clear ho
          obtain ⟨c0, f0⟩ := HW.out.1.1.1 k (by have := HI.out; have := HK.out; have := HW.out.2.1; omega)
          obtain ⟨c1, f1⟩ := HW.out.1.1.1 (a + o) (by have := HI.out; have := HO.out.2; have := HW.out.2.1; omega)
          obtain ⟨x0, hx0⟩ : ∃ x, dk[k]! = x := ⟨_, rfl⟩
          obtain ⟨x1, hx1⟩ : ∃ x, dk[a + o]! = x := ⟨_, rfl⟩
          rw [hx0] at c0
          rw [hx1] at c1
          have HX := Lib.hid (And.intro hx0 hx1)
          have i2 : (k : Int) < n := by have := HI.out; have := HK.out; omega
          have i3 : (0 : Int) ≤ (a : Int) + o := by omega
          have i4 : (a : Int) + o < n := by have := HI.out; have := HO.out.2; omega
          obtain ⟨y, hy⟩ := cell?_setCell_some (w := w2) (p := ⟨blk, off + k, none⟩) (x := .int .u32 x1) (q := ⟨blk, off + (a + o), none⟩) (v := .int .u32 x1) c1
          clear hx0 hx1 hLO
          go_wp2_with fail
          refine hNext.out.mono ?_
          rintro e w' ⟨rfl, rfl⟩
          go_wp2_with fail
          go_region
          all_goals
            go_wp2_with fail
            have hsw := HW.out.1.swp (i := k) (j := a + o) hbk (by have := HI.out; have := HK.out; have := HW.out.2.1; omega) (by have := HI.out; have := HO.out.2; have := HW.out.2.1; omega)
            rw [HX.out.1, HX.out.2] at hsw
            refine ⟨⟨t + 1, k + 1, xorNext r, swp dk k (a + o), by first | rfl | go_num, by have := HK.out; omega, by omega, by rw [swp_size]; exact HW.out.2.1, by rw [← HN.out.1]; exact hsw.drew, ?_⟩, by have := HK.out; simp [intOf]; omega⟩
            rw [← HW.out.2.2, bp_step a L M i0 t r dk o ht3 HO.out.1, HK.out.1]
        · have hLOz : decide ((L : Int) ≤ (O : Int)) = false := decide_eq_false (by omega)
          have hLOn : decide (L ≤ O) = false := decide_eq_false (by omega)
          have HO : Hid ((if (xorNext r).toNat &&& (M - 1) ≥ L then ((xorNext r).toNat &&& (M - 1)) - L else (xorNext r).toNat &&& (M - 1)) = O ∧ O < L) := Lib.hid ⟨by rw [← HN.out.2, if_neg (by omega)], by omega⟩
          obtain ⟨c0, f0⟩ := HW.out.1.1.1 k (by have := HI.out; have := HK.out; have := HW.out.2.1; omega)
          obtain ⟨c1, f1⟩ := HW.out.1.1.1 (a + O) (by have := HI.out; have := HO.out.2; have := HW.out.2.1; omega)
          obtain ⟨x0, hx0⟩ : ∃ x, dk[k]! = x := ⟨_, rfl⟩
          obtain ⟨x1, hx1⟩ : ∃ x, dk[a + O]! = x := ⟨_, rfl⟩
          rw [hx0] at c0
          rw [hx1] at c1
          have HX := Lib.hid (And.intro hx0 hx1)
          have i2 : (k : Int) < n := by have := HI.out; have := HK.out; omega
          have i3 : (0 : Int) ≤ (a : Int) + O := by omega
          have i4 : (a : Int) + O < n := by have := HI.out; have := HO.out.2; omega
          obtain ⟨y, hy⟩ := cell?_setCell_some (w := w2) (p := ⟨blk, off + k, none⟩) (x := .int .u32 x1) (q := ⟨blk, off + (a + O), none⟩) (v := .int .u32 x1) c1
          clear hx0 hx1 hLO
          go_wp2_with fail
          refine hNext.out.mono ?_
          rintro e w' ⟨rfl, rfl⟩
          go_wp2_with fail
          go_region
          all_goals
            go_wp2_with fail
            have hsw := HW.out.1.swp (i := k) (j := a + O) hbk (by have := HI.out; have := HK.out; have := HW.out.2.1; omega) (by have := HI.out; have := HO.out.2; have := HW.out.2.1; omega)
            rw [HX.out.1, HX.out.2] at hsw
            refine ⟨⟨t + 1, k + 1, xorNext r, swp dk k (a + O), by first | rfl | go_num, by have := HK.out; omega, by omega, by rw [swp_size]; exact HW.out.2.1, by rw [← HN.out.1]; exact hsw.drew, ?_⟩, by have := HK.out; simp [intOf]; omega⟩
            rw [← HW.out.2.2, bp_step a L M i0 t r dk O ht3 HO.out.1, HK.out.1]
      · have hle : decide ((k : Int) ≤ (a : Int) + (q : Int) * 2 + 1) = false := decide_eq_false (by have := HI.out; omega)
        have hlen : ¬ (k : Int) ≤ (a : Int) + (q : Int) * 2 + 1 := by have := HI.out; omega
        obtain rfl : t = 3 := by omega
        have HR : Hid (dk = bpRest a L M i0 3 0 (UInt64.ofNat L, d) ∧ SP w blk off dk wr) := Lib.hid ⟨by rw [← hbp]; rfl, hrp.1⟩
        clear hrp hbp hdk
        go_wp2_with fail
        go_end0
        refine ⟨⟨_, rfl⟩, ?_⟩
        rw [← HR.out.1]
        exact HR.out.2
  · have hz8 : decide ((8 : Int) ≤ L) = false := decide_eq_false (by omega)
    have hz8n : decide (8 ≤ L) = false := decide_eq_false (by omega)
    have HS : Hid (SP w blk off (breakPatterns d a b) w) := Lib.hid (by
      unfold breakPatterns
      simp only []
      rw [hL, if_neg h8]
      exact SP.start h)
    have hL1 : (L : Int) ≤ 1048576 := by omega
    clear h hn h8 hL
    go_enter Tryz.func91, Tryz.ntmps91
    go_wp2_with fail
    go_end0
    exact ⟨⟨_, rfl⟩, HS.out⟩
end Go.Proofs.YtpcffnhbodjpbaaGreatDoor
