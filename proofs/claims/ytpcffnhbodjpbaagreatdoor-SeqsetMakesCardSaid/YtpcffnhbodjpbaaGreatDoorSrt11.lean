/- The walk of partialInsertionSort at unsigned numbers. -/
import Derived.Test.YtpcffnhbodjpbaaGreatDoorSrt10
import Derived.Sort.WalkA6
set_option linter.unusedVariables false
set_option linter.unusedSimpArgs false
namespace Go.Proofs.YtpcffnhbodjpbaaGreatDoor
open Go.RowKit Go.Sort

set_option maxRecDepth 100000 in
set_option maxHeartbeats 12800000 in
theorem partial_u32 (blk off cap a b : Nat) (d : Array Int) (w : World) (h : Holds (Value.int .u32) w blk off d) (hab : a < b) (hb : b ≤ d.size) (hd : d.size ≤ 1048576) :
    Calls Tryz.prog 94 #[.slice (some ⟨blk, off, none⟩) d.size cap, .int .i64 a, .int .i64 b] w fun e w' => e = .returned (.bool (partialInsertionSort ltInt d a b).2) ∧ SP w blk off (partialInsertionSort ltInt d a b).1 w' := by
  obtain ⟨n, hn⟩ : ∃ n, d.size = n := ⟨_, rfl⟩
  obtain ⟨R, hR⟩ : ∃ R, partialInsertionSort ltInt d a b = R := ⟨_, rfl⟩
  have HS := Lib.hid (And.intro (SP.start h) (And.intro hn hR))
  rw [hn] at hb hd ⊢
  rw [hR]
  clear h hn hR
  have hd1 : (n : Int) ≤ 1048576 := by omega
  have hbn : (b : Int) ≤ n := by omega
  have habI : (a : Int) < b := by omega
  go_enter Tryz.func94, Tryz.ntmps94
  go_wp2_with fail
  go_loopw [7, 8] (fun vi vs wr => ∃ (i s : Nat) (dk : Array Int), vi = .int .i64 i ∧ vs = .int .i64 s ∧ s ≤ 5 ∧ a < i ∧ i ≤ b ∧ dk.size = n ∧ SP w blk off dk wr ∧ partialIns ltInt a b (5 - s) i dk = R) (fun vi vs _ => 5 - (intOf vs).toNat)
  case atStart => exact ⟨a + 1, 0, d, by first | rfl | go_num, by first | rfl | go_num, by omega, by omega, by omega, HS.out.2.1, HS.out.1, HS.out.2.2⟩
  case round =>
    obtain ⟨i, s, dk, rfl, rfl, hs5, hai, hib, hdk, hsp, hr⟩ := hrel
    obtain ⟨wo, rfl⟩ : ∃ wo : World, wo = wr := ⟨_, rfl⟩
    have HO := Lib.hid (And.intro hsp hr)
    have HDK := Lib.hid hdk
    clear hsp hr hdk
    by_cases hs : s < 5
    · have hsI : (s : Int) < 5 := by omega
      go_wp2_with fail
      go_loopw [7] (fun vi wr => ∃ m : Nat, vi = .int .i64 m ∧ i ≤ m ∧ m ≤ b ∧ SP w blk off dk wr ∧ scanSorted ltInt dk b m = scanSorted ltInt dk b i) (fun vi _ => b - (intOf vi).toNat)
      case atStart => exact ⟨i, by first | rfl | go_num, Nat.le_refl _, hib, HO.out.1, rfl⟩
      case round =>
        obtain ⟨m, rfl, him, hmb1, hsp, hsc⟩ := hrel
        obtain ⟨wm, rfl⟩ : ∃ wo : World, wo = wr := ⟨_, rfl⟩
        by_cases hlt : m < b
        · have hltI : (m : Int) < b := by omega
          obtain ⟨m1, hm1⟩ : ∃ m1, m - 1 = m1 := ⟨_, rfl⟩
          have hm1I : (m : Int) - 1 = (m1 : Int) := by omega
          have hm1b : m1 + 1 = m := by omega
          have hmn : (m : Int) < n := by omega
          have hm1n : (m1 : Int) < n := by omega
          have HMM := Lib.hid hm1
          have HM := Lib.hid (And.intro hsp hsc)
          obtain ⟨c1, f1⟩ := HM.out.1.1 m (by have := HDK.out; omega)
          obtain ⟨c0, f0⟩ := HM.out.1.1 m1 (by have := HDK.out; omega)
          obtain ⟨x1, hx1⟩ : ∃ x, dk[m]! = x := ⟨_, rfl⟩
          obtain ⟨x0, hx0⟩ : ∃ x, dk[m1]! = x := ⟨_, rfl⟩
          rw [hx1] at c1
          rw [hx0] at c0
          have HX := Lib.hid (And.intro hx1 hx0)
          clear hx1 hx0
          clear hsp hsc hm1
          cases hl : ltInt x1 x0 with
          | false =>
            have HL := Lib.hid hl
            go_wp2_with fail
            go_quiet ((go_at_call 95; first | exact Calls.quiet_of_same (less_is _ _ _ HL.out _) | exact quietA (less_is _ _ _ HL.out _)))
            go_wp2_with fail
            refine ⟨⟨m + 1, by first | rfl | go_num, by omega, by omega, by first | exact HM.out.1.drewN _ | exact (HM.out.1.drewN _).drewN _, ?_⟩, by simp [intOf]; omega⟩
            rw [← HM.out.2, scanSorted_go ltInt dk b m hlt (by rw [HMM.out, HX.out.1, HX.out.2]; exact HL.out)]
          | true =>
            have HL := Lib.hid hl
            have HK : Hid (scanSorted ltInt dk b i = m) := Lib.hid (by rw [← HM.out.2, scanSorted_stop ltInt dk b m (Or.inr (by rw [HMM.out, HX.out.1, HX.out.2]; exact HL.out))])
            have hmb : m ≠ b := by omega
            have hmbI : ((m : Int) == b) = false := by simp; omega
            by_cases h50 : b - a < 50
            · have h50I : (b : Int) - a < 50 := by omega
              go_wp2_with fail
              go_quiet ((go_at_call 95; first | exact Calls.quiet_of_same (less_is _ _ _ HL.out _) | exact quietA (less_is _ _ _ HL.out _)))
              go_wp2_with fail
              go_ret
              have hr := HO.out.2
              rw [pi_short ltInt a b s i dk hs (by rw [HK.out]; exact hmb) h50] at hr
              rw [← hr]
              exact ⟨rfl, by first | exact HM.out.1.drewN _ | exact (HM.out.1.drewN _).drewN _⟩
            · have h50I : decide ((b : Int) - a < 50) = false := decide_eq_false (by omega)
              have h50P : ¬ (b : Int) - a < 50 := by omega
              obtain ⟨y, hy⟩ := cell?_setCell_some (w := wm) (p := ⟨blk, off + m, none⟩) (x := .int .u32 x0) (q := ⟨blk, off + m1, none⟩) (v := .int .u32 x0) c0
              go_wp2_with fail
              go_quiet ((go_at_call 95; first | exact Calls.quiet_of_same (less_is _ _ _ HL.out _) | exact quietA (less_is _ _ _ HL.out _)))
              go_wp2_with fail
              by_cases hka : m - a ≥ 2
              · by_cases hkb : b - m ≥ 2
                · have hkaN : m - a ≥ 2 := hka
                  have hkaI : (2 : Int) ≤ (m : Int) - a := by omega
                  have hkbN : b - m ≥ 2 := hkb
                  have hkbI : (2 : Int) ≤ (b : Int) - m := by omega
                  go_region
                  all_goals
                    go_wp2_with fail
                    clear c0 f0 c1 f1 hy
                    have hs2 := fun W (hW : SP w blk off dk W) => hW.swp (i := m) (j := m1) (by have := HDK.out; omega) (by have := HDK.out; omega)
                    rw [HX.out.1, HX.out.2] at hs2
                    have HS2 := Lib.hid hs2
                    clear hs2
                    go_loopw [9] (fun vj wr => ∃ (jj : Nat) (dj : Array Int), vj = .int .i64 jj ∧ jj ≤ m1 ∧ dj.size = n ∧ SP w blk off dj wr ∧ shiftDown ltInt jj dj = shiftDown ltInt m1 (swp dk m m1)) (fun vj _ => (intOf vj).toNat)
                    case atStart => exact ⟨m1, (swp dk m m1), by first | rfl | go_num, Nat.le_refl _, by rw [swp_size]; exact HDK.out, by first | exact HS2.out _ (HM.out.1.drewN (nq + 1)) | exact (HS2.out _ (HM.out.1.drewN nq)).drew | exact HS2.out _ (HM.out.1.drewN nq).drew, rfl⟩
                    case round =>
                      obtain ⟨jj, dj, rfl, hjm, hdj, hsp, hsh⟩ := hrel
                      obtain ⟨wj, rfl⟩ : ∃ wo : World, wo = wr := ⟨_, rfl⟩
                      by_cases h1 : 1 ≤ jj
                      · have h1I : (1 : Int) ≤ jj := by omega
                        have hjn : (jj : Int) < n := by omega
                        obtain ⟨j1, hj1⟩ : ∃ j1, jj - 1 = j1 := ⟨_, rfl⟩
                        have hj1I : (jj : Int) - 1 = (j1 : Int) := by omega
                        have hj1b : j1 + 1 = jj := by omega
                        have HJ1 := Lib.hid hj1
                        have hj1n : (j1 : Int) < n := by omega
                        have HJ := Lib.hid (And.intro hsp (And.intro hdj hsh))
                        obtain ⟨c1, f1⟩ := HJ.out.1.1 jj (by have := HJ.out.2.1; omega)
                        obtain ⟨c0, f0⟩ := HJ.out.1.1 j1 (by have := HJ.out.2.1; omega)
                        obtain ⟨x1, hx1⟩ : ∃ x, dj[jj]! = x := ⟨_, rfl⟩
                        obtain ⟨x0, hx0⟩ : ∃ x, dj[j1]! = x := ⟨_, rfl⟩
                        rw [hx1] at c1
                        rw [hx0] at c0
                        have HX := Lib.hid (And.intro hx1 hx0)
                        clear hx1 hx0
                        obtain ⟨y, hy⟩ := cell?_setCell_some (w := wj) (p := ⟨blk, off + jj, none⟩) (x := .int .u32 x0) (q := ⟨blk, off + j1, none⟩) (v := .int .u32 x0) c0
                        clear hsp hdj hsh hj1
                        cases hl : ltInt x1 x0 with
                        | true =>
                          have HL := Lib.hid hl
                          go_wp2_with fail
                          go_quiet ((go_at_call 95; first | exact Calls.quiet_of_same (less_is _ _ _ HL.out _) | exact quietA (less_is _ _ _ HL.out _)))
                          go_wp2_with fail
                          go_region
                          all_goals
                            go_wp2_with fail
                            have hs2 := fun W (hW : SP w blk off dj W) => hW.swp (i := jj) (j := j1) (by have := HJ.out.2.1; omega) (by have := HJ.out.2.1; omega)
                            rw [HX.out.1, HX.out.2] at hs2
                            have HS2 := Lib.hid hs2
                            clear hs2
                            refine ⟨⟨j1, swp dj jj j1, by first | rfl | go_num, by omega, by rw [swp_size]; exact HJ.out.2.1, by first | exact HS2.out _ (HJ.out.1.drewN (nq + 1)) | exact (HS2.out _ (HJ.out.1.drewN nq)).drew | exact HS2.out _ (HJ.out.1.drewN nq).drew, ?_⟩, by simp [intOf]; omega⟩
                            rw [← HJ.out.2.2, shiftDown_go ltInt jj dj h1 (by rw [HJ1.out, HX.out.1, HX.out.2]; exact HL.out), HJ1.out]
                        | false =>
                          have HL := Lib.hid hl
                          go_wp2_with fail
                          go_quiet ((go_at_call 95; first | exact Calls.quiet_of_same (less_is _ _ _ HL.out _) | exact quietA (less_is _ _ _ HL.out _)))
                          go_wp2_with fail
                          have HT : Hid (shiftDown ltInt m1 (swp dk m m1) = dj ∧ dj.size = n ∧ SP w blk off dj wj) := Lib.hid ⟨by rw [← HJ.out.2.2, shiftDown_stop ltInt jj dj (Or.inr (by rw [HJ1.out, HX.out.1, HX.out.2]; exact HL.out))], HJ.out.2.1, HJ.out.1⟩
                          clear c0 f0 c1 f1 hy hl h1I hjn hj1I hj1b hj1n
                          go_loopw [10] (fun vj wr => ∃ (ju : Nat) (du : Array Int), vj = .int .i64 ju ∧ m + 1 ≤ ju ∧ ju ≤ b ∧ du.size = n ∧ SP w blk off du wr ∧ shiftUp ltInt b ju du = shiftUp ltInt b (m + 1) dj) (fun vj _ => b - (intOf vj).toNat)
                          case atStart => exact ⟨m + 1, dj, by first | rfl | go_num, Nat.le_refl _, by omega, by first | exact HT.out.2.1 | (rw [swp_size]; exact HT.out.2.1), by first | exact HT.out.2.2.drewN _ | exact HT.out.2.2, rfl⟩
                          case round =>
                            obtain ⟨ju, du, rfl, hju, hjb, hdu, hsp, hsh⟩ := hrel
                            obtain ⟨wu, rfl⟩ : ∃ wo : World, wo = wr := ⟨_, rfl⟩
                            by_cases h1 : ju < b
                            · have h1I : (ju : Int) < b := by omega
                              have hjn : (ju : Int) < n := by omega
                              obtain ⟨j1, hj1⟩ : ∃ j1, ju - 1 = j1 := ⟨_, rfl⟩
                              have hj1I : (ju : Int) - 1 = (j1 : Int) := by omega
                              have hj1b : j1 + 1 = ju := by omega
                              have HJ1 := Lib.hid hj1
                              have hj1n : (j1 : Int) < n := by omega
                              have HU := Lib.hid (And.intro hsp (And.intro hdu hsh))
                              obtain ⟨c1, f1⟩ := HU.out.1.1 ju (by have := HU.out.2.1; omega)
                              obtain ⟨c0, f0⟩ := HU.out.1.1 j1 (by have := HU.out.2.1; omega)
                              obtain ⟨x1, hx1⟩ : ∃ x, du[ju]! = x := ⟨_, rfl⟩
                              obtain ⟨x0, hx0⟩ : ∃ x, du[j1]! = x := ⟨_, rfl⟩
                              rw [hx1] at c1
                              rw [hx0] at c0
                              have HX := Lib.hid (And.intro hx1 hx0)
                              clear hx1 hx0
                              obtain ⟨y, hy⟩ := cell?_setCell_some (w := wu) (p := ⟨blk, off + ju, none⟩) (x := .int .u32 x0) (q := ⟨blk, off + j1, none⟩) (v := .int .u32 x0) c0
                              clear hsp hdu hsh hj1
                              cases hl : ltInt x1 x0 with
                              | true =>
                                have HL := Lib.hid hl
                                go_wp2_with fail
                                go_quiet ((go_at_call 95; first | exact Calls.quiet_of_same (less_is _ _ _ HL.out _) | exact quietA (less_is _ _ _ HL.out _)))
                                go_wp2_with fail
                                go_region
                                all_goals
                                  go_wp2_with fail
                                  have hs2 := fun W (hW : SP w blk off du W) => hW.swp (i := ju) (j := j1) (by have := HU.out.2.1; omega) (by have := HU.out.2.1; omega)
                                  rw [HX.out.1, HX.out.2] at hs2
                                  have HS2 := Lib.hid hs2
                                  clear hs2
                                  refine ⟨⟨ju + 1, swp du ju j1, by first | rfl | go_num, by omega, by omega, by rw [swp_size]; exact HU.out.2.1, by first | exact HS2.out _ (HU.out.1.drewN (nq + 1)) | exact (HS2.out _ (HU.out.1.drewN nq)).drew | exact HS2.out _ (HU.out.1.drewN nq).drew, ?_⟩, by simp [intOf]; omega⟩
                                  rw [← HU.out.2.2, shiftUp_go ltInt b ju du h1 (by rw [HJ1.out, HX.out.1, HX.out.2]; exact HL.out), HJ1.out]
                              | false =>
                                have HL := Lib.hid hl
                                go_wp2_with fail
                                go_quiet ((go_at_call 95; first | exact Calls.quiet_of_same (less_is _ _ _ HL.out _) | exact quietA (less_is _ _ _ HL.out _)))
                                go_wp2_with fail
                                have HV : Hid (shiftUp ltInt b (m + 1) dj = du ∧ du.size = n ∧ SP w blk off du wu) := Lib.hid ⟨by rw [← HU.out.2.2, shiftUp_stop ltInt b ju du (Or.inr (by rw [HJ1.out, HX.out.1, HX.out.2]; exact HL.out))], HU.out.2.1, HU.out.1⟩
                                have eD : fixDown ltInt a m (swp dk m m1) = dj := by unfold fixDown; rw [if_pos hkaN, HMM.out, HT.out.1]
                                have eU : fixUp ltInt b m dj = du := by unfold fixUp; rw [if_pos hkbN]; exact HV.out.1
                                refine ⟨⟨m, s + 1, du, by first | rfl | go_num, by first | rfl | go_num, by omega, by omega, by omega, by first | exact HV.out.2.1 | (rw [swp_size]; exact HV.out.2.1), by first | exact HV.out.2.2.drewN _ | exact HV.out.2.2, ?_⟩, by simp [intOf]; omega⟩
                                rw [← HO.out.2, pi_go ltInt a b s i m dk hs HK.out hmb h50, HMM.out, eD, eU]
                            · have h1I : decide ((ju : Int) < b) = false := decide_eq_false (by omega)
                              have h1N : decide (ju < b) = false := decide_eq_false (by omega)
                              have h1P : ¬ (ju : Int) < b := by omega
                              have HV : Hid (shiftUp ltInt b (m + 1) dj = du ∧ du.size = n ∧ SP w blk off du wu) := Lib.hid ⟨by rw [← hsh, shiftUp_stop ltInt b ju du (Or.inl h1)], hdu, hsp⟩
                              clear hsp hdu hsh
                              go_wp2_with fail
                              have eD : fixDown ltInt a m (swp dk m m1) = dj := by unfold fixDown; rw [if_pos hkaN, HMM.out, HT.out.1]
                              have eU : fixUp ltInt b m dj = du := by unfold fixUp; rw [if_pos hkbN]; exact HV.out.1
                              refine ⟨⟨m, s + 1, du, by first | rfl | go_num, by first | rfl | go_num, by omega, by omega, by omega, by first | exact HV.out.2.1 | (rw [swp_size]; exact HV.out.2.1), by first | exact HV.out.2.2, ?_⟩, by simp [intOf]; omega⟩
                              rw [← HO.out.2, pi_go ltInt a b s i m dk hs HK.out hmb h50, HMM.out, eD, eU]
                      · have h1I : decide ((1 : Int) ≤ jj) = false := decide_eq_false (by omega)
                        have h1N : decide (1 ≤ jj) = false := decide_eq_false (by omega)
                        have h1P : ¬ (1 : Int) ≤ jj := by omega
                        have HT : Hid (shiftDown ltInt m1 (swp dk m m1) = dj ∧ dj.size = n ∧ SP w blk off dj wj) := Lib.hid ⟨by rw [← hsh, shiftDown_stop ltInt jj dj (Or.inl (by omega))], hdj, hsp⟩
                        clear hsp hdj hsh
                        go_wp2_with fail
                        clear h1I h1N h1P
                        go_loopw [10] (fun vj wr => ∃ (ju : Nat) (du : Array Int), vj = .int .i64 ju ∧ m + 1 ≤ ju ∧ ju ≤ b ∧ du.size = n ∧ SP w blk off du wr ∧ shiftUp ltInt b ju du = shiftUp ltInt b (m + 1) dj) (fun vj _ => b - (intOf vj).toNat)
                        case atStart => exact ⟨m + 1, dj, by first | rfl | go_num, Nat.le_refl _, by omega, by first | exact HT.out.2.1 | (rw [swp_size]; exact HT.out.2.1), by first | exact HT.out.2.2, rfl⟩
                        case round =>
                          obtain ⟨ju, du, rfl, hju, hjb, hdu, hsp, hsh⟩ := hrel
                          obtain ⟨wu, rfl⟩ : ∃ wo : World, wo = wr := ⟨_, rfl⟩
                          by_cases h1 : ju < b
                          · have h1I : (ju : Int) < b := by omega
                            have hjn : (ju : Int) < n := by omega
                            obtain ⟨j1, hj1⟩ : ∃ j1, ju - 1 = j1 := ⟨_, rfl⟩
                            have hj1I : (ju : Int) - 1 = (j1 : Int) := by omega
                            have hj1b : j1 + 1 = ju := by omega
                            have HJ1 := Lib.hid hj1
                            have hj1n : (j1 : Int) < n := by omega
                            have HU := Lib.hid (And.intro hsp (And.intro hdu hsh))
                            obtain ⟨c1, f1⟩ := HU.out.1.1 ju (by have := HU.out.2.1; omega)
                            obtain ⟨c0, f0⟩ := HU.out.1.1 j1 (by have := HU.out.2.1; omega)
                            obtain ⟨x1, hx1⟩ : ∃ x, du[ju]! = x := ⟨_, rfl⟩
                            obtain ⟨x0, hx0⟩ : ∃ x, du[j1]! = x := ⟨_, rfl⟩
                            rw [hx1] at c1
                            rw [hx0] at c0
                            have HX := Lib.hid (And.intro hx1 hx0)
                            clear hx1 hx0
                            obtain ⟨y, hy⟩ := cell?_setCell_some (w := wu) (p := ⟨blk, off + ju, none⟩) (x := .int .u32 x0) (q := ⟨blk, off + j1, none⟩) (v := .int .u32 x0) c0
                            clear hsp hdu hsh hj1
                            cases hl : ltInt x1 x0 with
                            | true =>
                              have HL := Lib.hid hl
                              go_wp2_with fail
                              go_quiet ((go_at_call 95; first | exact Calls.quiet_of_same (less_is _ _ _ HL.out _) | exact quietA (less_is _ _ _ HL.out _)))
                              go_wp2_with fail
                              go_region
                              all_goals
                                go_wp2_with fail
                                have hs2 := fun W (hW : SP w blk off du W) => hW.swp (i := ju) (j := j1) (by have := HU.out.2.1; omega) (by have := HU.out.2.1; omega)
                                rw [HX.out.1, HX.out.2] at hs2
                                have HS2 := Lib.hid hs2
                                clear hs2
                                refine ⟨⟨ju + 1, swp du ju j1, by first | rfl | go_num, by omega, by omega, by rw [swp_size]; exact HU.out.2.1, by first | exact HS2.out _ (HU.out.1.drewN (nq + 1)) | exact (HS2.out _ (HU.out.1.drewN nq)).drew | exact HS2.out _ (HU.out.1.drewN nq).drew, ?_⟩, by simp [intOf]; omega⟩
                                rw [← HU.out.2.2, shiftUp_go ltInt b ju du h1 (by rw [HJ1.out, HX.out.1, HX.out.2]; exact HL.out), HJ1.out]
                            | false =>
                              have HL := Lib.hid hl
                              go_wp2_with fail
                              go_quiet ((go_at_call 95; first | exact Calls.quiet_of_same (less_is _ _ _ HL.out _) | exact quietA (less_is _ _ _ HL.out _)))
                              go_wp2_with fail
                              have HV : Hid (shiftUp ltInt b (m + 1) dj = du ∧ du.size = n ∧ SP w blk off du wu) := Lib.hid ⟨by rw [← HU.out.2.2, shiftUp_stop ltInt b ju du (Or.inr (by rw [HJ1.out, HX.out.1, HX.out.2]; exact HL.out))], HU.out.2.1, HU.out.1⟩
                              have eD : fixDown ltInt a m (swp dk m m1) = dj := by unfold fixDown; rw [if_pos hkaN, HMM.out, HT.out.1]
                              have eU : fixUp ltInt b m dj = du := by unfold fixUp; rw [if_pos hkbN]; exact HV.out.1
                              refine ⟨⟨m, s + 1, du, by first | rfl | go_num, by first | rfl | go_num, by omega, by omega, by omega, by first | exact HV.out.2.1 | (rw [swp_size]; exact HV.out.2.1), by first | exact HV.out.2.2.drewN _ | exact HV.out.2.2, ?_⟩, by simp [intOf]; omega⟩
                              rw [← HO.out.2, pi_go ltInt a b s i m dk hs HK.out hmb h50, HMM.out, eD, eU]
                          · have h1I : decide ((ju : Int) < b) = false := decide_eq_false (by omega)
                            have h1N : decide (ju < b) = false := decide_eq_false (by omega)
                            have h1P : ¬ (ju : Int) < b := by omega
                            have HV : Hid (shiftUp ltInt b (m + 1) dj = du ∧ du.size = n ∧ SP w blk off du wu) := Lib.hid ⟨by rw [← hsh, shiftUp_stop ltInt b ju du (Or.inl h1)], hdu, hsp⟩
                            clear hsp hdu hsh
                            go_wp2_with fail
                            have eD : fixDown ltInt a m (swp dk m m1) = dj := by unfold fixDown; rw [if_pos hkaN, HMM.out, HT.out.1]
                            have eU : fixUp ltInt b m dj = du := by unfold fixUp; rw [if_pos hkbN]; exact HV.out.1
                            refine ⟨⟨m, s + 1, du, by first | rfl | go_num, by first | rfl | go_num, by omega, by omega, by omega, by first | exact HV.out.2.1 | (rw [swp_size]; exact HV.out.2.1), by first | exact HV.out.2.2, ?_⟩, by simp [intOf]; omega⟩
                            rw [← HO.out.2, pi_go ltInt a b s i m dk hs HK.out hmb h50, HMM.out, eD, eU]
                · have hkaN : m - a ≥ 2 := hka
                  have hkaI : (2 : Int) ≤ (m : Int) - a := by omega
                  have hkbN : ¬ b - m ≥ 2 := hkb
                  have hkbI : decide ((2 : Int) ≤ (b : Int) - m) = false := decide_eq_false (by omega)
                  have hkbP : ¬ (2 : Int) ≤ (b : Int) - m := by omega
                  go_region
                  all_goals
                    go_wp2_with fail
                    clear c0 f0 c1 f1 hy
                    have hs2 := fun W (hW : SP w blk off dk W) => hW.swp (i := m) (j := m1) (by have := HDK.out; omega) (by have := HDK.out; omega)
                    rw [HX.out.1, HX.out.2] at hs2
                    have HS2 := Lib.hid hs2
                    clear hs2
                    go_loopw [9] (fun vj wr => ∃ (jj : Nat) (dj : Array Int), vj = .int .i64 jj ∧ jj ≤ m1 ∧ dj.size = n ∧ SP w blk off dj wr ∧ shiftDown ltInt jj dj = shiftDown ltInt m1 (swp dk m m1)) (fun vj _ => (intOf vj).toNat)
                    case atStart => exact ⟨m1, (swp dk m m1), by first | rfl | go_num, Nat.le_refl _, by rw [swp_size]; exact HDK.out, by first | exact HS2.out _ (HM.out.1.drewN (nq + 1)) | exact (HS2.out _ (HM.out.1.drewN nq)).drew | exact HS2.out _ (HM.out.1.drewN nq).drew, rfl⟩
                    case round =>
                      obtain ⟨jj, dj, rfl, hjm, hdj, hsp, hsh⟩ := hrel
                      obtain ⟨wj, rfl⟩ : ∃ wo : World, wo = wr := ⟨_, rfl⟩
                      by_cases h1 : 1 ≤ jj
                      · have h1I : (1 : Int) ≤ jj := by omega
                        have hjn : (jj : Int) < n := by omega
                        obtain ⟨j1, hj1⟩ : ∃ j1, jj - 1 = j1 := ⟨_, rfl⟩
                        have hj1I : (jj : Int) - 1 = (j1 : Int) := by omega
                        have hj1b : j1 + 1 = jj := by omega
                        have HJ1 := Lib.hid hj1
                        have hj1n : (j1 : Int) < n := by omega
                        have HJ := Lib.hid (And.intro hsp (And.intro hdj hsh))
                        obtain ⟨c1, f1⟩ := HJ.out.1.1 jj (by have := HJ.out.2.1; omega)
                        obtain ⟨c0, f0⟩ := HJ.out.1.1 j1 (by have := HJ.out.2.1; omega)
                        obtain ⟨x1, hx1⟩ : ∃ x, dj[jj]! = x := ⟨_, rfl⟩
                        obtain ⟨x0, hx0⟩ : ∃ x, dj[j1]! = x := ⟨_, rfl⟩
                        rw [hx1] at c1
                        rw [hx0] at c0
                        have HX := Lib.hid (And.intro hx1 hx0)
                        clear hx1 hx0
                        obtain ⟨y, hy⟩ := cell?_setCell_some (w := wj) (p := ⟨blk, off + jj, none⟩) (x := .int .u32 x0) (q := ⟨blk, off + j1, none⟩) (v := .int .u32 x0) c0
                        clear hsp hdj hsh hj1
                        cases hl : ltInt x1 x0 with
                        | true =>
                          have HL := Lib.hid hl
                          go_wp2_with fail
                          go_quiet ((go_at_call 95; first | exact Calls.quiet_of_same (less_is _ _ _ HL.out _) | exact quietA (less_is _ _ _ HL.out _)))
                          go_wp2_with fail
                          go_region
                          all_goals
                            go_wp2_with fail
                            have hs2 := fun W (hW : SP w blk off dj W) => hW.swp (i := jj) (j := j1) (by have := HJ.out.2.1; omega) (by have := HJ.out.2.1; omega)
                            rw [HX.out.1, HX.out.2] at hs2
                            have HS2 := Lib.hid hs2
                            clear hs2
                            refine ⟨⟨j1, swp dj jj j1, by first | rfl | go_num, by omega, by rw [swp_size]; exact HJ.out.2.1, by first | exact HS2.out _ (HJ.out.1.drewN (nq + 1)) | exact (HS2.out _ (HJ.out.1.drewN nq)).drew | exact HS2.out _ (HJ.out.1.drewN nq).drew, ?_⟩, by simp [intOf]; omega⟩
                            rw [← HJ.out.2.2, shiftDown_go ltInt jj dj h1 (by rw [HJ1.out, HX.out.1, HX.out.2]; exact HL.out), HJ1.out]
                        | false =>
                          have HL := Lib.hid hl
                          go_wp2_with fail
                          go_quiet ((go_at_call 95; first | exact Calls.quiet_of_same (less_is _ _ _ HL.out _) | exact quietA (less_is _ _ _ HL.out _)))
                          go_wp2_with fail
                          have HT : Hid (shiftDown ltInt m1 (swp dk m m1) = dj ∧ dj.size = n ∧ SP w blk off dj wj) := Lib.hid ⟨by rw [← HJ.out.2.2, shiftDown_stop ltInt jj dj (Or.inr (by rw [HJ1.out, HX.out.1, HX.out.2]; exact HL.out))], HJ.out.2.1, HJ.out.1⟩
                          clear c0 f0 c1 f1 hy hl h1I hjn hj1I hj1b hj1n
                          have eD : fixDown ltInt a m (swp dk m m1) = dj := by unfold fixDown; rw [if_pos hkaN, HMM.out, HT.out.1]
                          have eU : fixUp ltInt b m dj = dj := by unfold fixUp; rw [if_neg hkbN]
                          refine ⟨⟨m, s + 1, dj, by first | rfl | go_num, by first | rfl | go_num, by omega, by omega, by omega, by first | exact HT.out.2.1 | (rw [swp_size]; exact HT.out.2.1), by first | exact HT.out.2.2.drewN _ | exact HT.out.2.2, ?_⟩, by simp [intOf]; omega⟩
                          rw [← HO.out.2, pi_go ltInt a b s i m dk hs HK.out hmb h50, HMM.out, eD, eU]
                      · have h1I : decide ((1 : Int) ≤ jj) = false := decide_eq_false (by omega)
                        have h1N : decide (1 ≤ jj) = false := decide_eq_false (by omega)
                        have h1P : ¬ (1 : Int) ≤ jj := by omega
                        have HT : Hid (shiftDown ltInt m1 (swp dk m m1) = dj ∧ dj.size = n ∧ SP w blk off dj wj) := Lib.hid ⟨by rw [← hsh, shiftDown_stop ltInt jj dj (Or.inl (by omega))], hdj, hsp⟩
                        clear hsp hdj hsh
                        go_wp2_with fail
                        clear h1I h1N h1P
                        have eD : fixDown ltInt a m (swp dk m m1) = dj := by unfold fixDown; rw [if_pos hkaN, HMM.out, HT.out.1]
                        have eU : fixUp ltInt b m dj = dj := by unfold fixUp; rw [if_neg hkbN]
                        refine ⟨⟨m, s + 1, dj, by first | rfl | go_num, by first | rfl | go_num, by omega, by omega, by omega, by first | exact HT.out.2.1 | (rw [swp_size]; exact HT.out.2.1), by first | exact HT.out.2.2, ?_⟩, by simp [intOf]; omega⟩
                        rw [← HO.out.2, pi_go ltInt a b s i m dk hs HK.out hmb h50, HMM.out, eD, eU]
              · by_cases hkb : b - m ≥ 2
                · have hkaN : ¬ m - a ≥ 2 := hka
                  have hkaI : decide ((2 : Int) ≤ (m : Int) - a) = false := decide_eq_false (by omega)
                  have hkaP : ¬ (2 : Int) ≤ (m : Int) - a := by omega
                  have hkbN : b - m ≥ 2 := hkb
                  have hkbI : (2 : Int) ≤ (b : Int) - m := by omega
                  go_region
                  all_goals
                    go_wp2_with fail
                    clear c0 f0 c1 f1 hy
                    have hs2 := fun W (hW : SP w blk off dk W) => hW.swp (i := m) (j := m1) (by have := HDK.out; omega) (by have := HDK.out; omega)
                    rw [HX.out.1, HX.out.2] at hs2
                    have HS2 := Lib.hid hs2
                    clear hs2
                    go_loopw [10] (fun vj wr => ∃ (ju : Nat) (du : Array Int), vj = .int .i64 ju ∧ m + 1 ≤ ju ∧ ju ≤ b ∧ du.size = n ∧ SP w blk off du wr ∧ shiftUp ltInt b ju du = shiftUp ltInt b (m + 1) (swp dk m m1)) (fun vj _ => b - (intOf vj).toNat)
                    case atStart => exact ⟨m + 1, (swp dk m m1), by first | rfl | go_num, Nat.le_refl _, by omega, by first | exact HDK.out | (rw [swp_size]; exact HDK.out), by first | exact HS2.out _ (HM.out.1.drewN (nq + 1)) | exact (HS2.out _ (HM.out.1.drewN nq)).drew | exact HS2.out _ (HM.out.1.drewN nq).drew, rfl⟩
                    case round =>
                      obtain ⟨ju, du, rfl, hju, hjb, hdu, hsp, hsh⟩ := hrel
                      obtain ⟨wu, rfl⟩ : ∃ wo : World, wo = wr := ⟨_, rfl⟩
                      by_cases h1 : ju < b
                      · have h1I : (ju : Int) < b := by omega
                        have hjn : (ju : Int) < n := by omega
                        obtain ⟨j1, hj1⟩ : ∃ j1, ju - 1 = j1 := ⟨_, rfl⟩
                        have hj1I : (ju : Int) - 1 = (j1 : Int) := by omega
                        have hj1b : j1 + 1 = ju := by omega
                        have HJ1 := Lib.hid hj1
                        have hj1n : (j1 : Int) < n := by omega
                        have HU := Lib.hid (And.intro hsp (And.intro hdu hsh))
                        obtain ⟨c1, f1⟩ := HU.out.1.1 ju (by have := HU.out.2.1; omega)
                        obtain ⟨c0, f0⟩ := HU.out.1.1 j1 (by have := HU.out.2.1; omega)
                        obtain ⟨x1, hx1⟩ : ∃ x, du[ju]! = x := ⟨_, rfl⟩
                        obtain ⟨x0, hx0⟩ : ∃ x, du[j1]! = x := ⟨_, rfl⟩
                        rw [hx1] at c1
                        rw [hx0] at c0
                        have HX := Lib.hid (And.intro hx1 hx0)
                        clear hx1 hx0
                        obtain ⟨y, hy⟩ := cell?_setCell_some (w := wu) (p := ⟨blk, off + ju, none⟩) (x := .int .u32 x0) (q := ⟨blk, off + j1, none⟩) (v := .int .u32 x0) c0
                        clear hsp hdu hsh hj1
                        cases hl : ltInt x1 x0 with
                        | true =>
                          have HL := Lib.hid hl
                          go_wp2_with fail
                          go_quiet ((go_at_call 95; first | exact Calls.quiet_of_same (less_is _ _ _ HL.out _) | exact quietA (less_is _ _ _ HL.out _)))
                          go_wp2_with fail
                          go_region
                          all_goals
                            go_wp2_with fail
                            have hs2 := fun W (hW : SP w blk off du W) => hW.swp (i := ju) (j := j1) (by have := HU.out.2.1; omega) (by have := HU.out.2.1; omega)
                            rw [HX.out.1, HX.out.2] at hs2
                            have HS2 := Lib.hid hs2
                            clear hs2
                            refine ⟨⟨ju + 1, swp du ju j1, by first | rfl | go_num, by omega, by omega, by rw [swp_size]; exact HU.out.2.1, by first | exact HS2.out _ (HU.out.1.drewN (nq + 1)) | exact (HS2.out _ (HU.out.1.drewN nq)).drew | exact HS2.out _ (HU.out.1.drewN nq).drew, ?_⟩, by simp [intOf]; omega⟩
                            rw [← HU.out.2.2, shiftUp_go ltInt b ju du h1 (by rw [HJ1.out, HX.out.1, HX.out.2]; exact HL.out), HJ1.out]
                        | false =>
                          have HL := Lib.hid hl
                          go_wp2_with fail
                          go_quiet ((go_at_call 95; first | exact Calls.quiet_of_same (less_is _ _ _ HL.out _) | exact quietA (less_is _ _ _ HL.out _)))
                          go_wp2_with fail
                          have HV : Hid (shiftUp ltInt b (m + 1) (swp dk m m1) = du ∧ du.size = n ∧ SP w blk off du wu) := Lib.hid ⟨by rw [← HU.out.2.2, shiftUp_stop ltInt b ju du (Or.inr (by rw [HJ1.out, HX.out.1, HX.out.2]; exact HL.out))], HU.out.2.1, HU.out.1⟩
                          have eD : fixDown ltInt a m (swp dk m m1) = (swp dk m m1) := by unfold fixDown; rw [if_neg hkaN]
                          have eU : fixUp ltInt b m (swp dk m m1) = du := by unfold fixUp; rw [if_pos hkbN]; exact HV.out.1
                          refine ⟨⟨m, s + 1, du, by first | rfl | go_num, by first | rfl | go_num, by omega, by omega, by omega, by first | exact HV.out.2.1 | (rw [swp_size]; exact HV.out.2.1), by first | exact HV.out.2.2.drewN _ | exact HV.out.2.2, ?_⟩, by simp [intOf]; omega⟩
                          rw [← HO.out.2, pi_go ltInt a b s i m dk hs HK.out hmb h50, HMM.out, eD, eU]
                      · have h1I : decide ((ju : Int) < b) = false := decide_eq_false (by omega)
                        have h1N : decide (ju < b) = false := decide_eq_false (by omega)
                        have h1P : ¬ (ju : Int) < b := by omega
                        have HV : Hid (shiftUp ltInt b (m + 1) (swp dk m m1) = du ∧ du.size = n ∧ SP w blk off du wu) := Lib.hid ⟨by rw [← hsh, shiftUp_stop ltInt b ju du (Or.inl h1)], hdu, hsp⟩
                        clear hsp hdu hsh
                        go_wp2_with fail
                        have eD : fixDown ltInt a m (swp dk m m1) = (swp dk m m1) := by unfold fixDown; rw [if_neg hkaN]
                        have eU : fixUp ltInt b m (swp dk m m1) = du := by unfold fixUp; rw [if_pos hkbN]; exact HV.out.1
                        refine ⟨⟨m, s + 1, du, by first | rfl | go_num, by first | rfl | go_num, by omega, by omega, by omega, by first | exact HV.out.2.1 | (rw [swp_size]; exact HV.out.2.1), by first | exact HV.out.2.2, ?_⟩, by simp [intOf]; omega⟩
                        rw [← HO.out.2, pi_go ltInt a b s i m dk hs HK.out hmb h50, HMM.out, eD, eU]
                · exact absurd h50 (by omega)
        · obtain rfl : m = b := by omega
          have hleF : decide ((m : Int) < m) = false := decide_eq_false (by omega)
          have HK : Hid (scanSorted ltInt dk m i = m) := Lib.hid (by rw [← hsc, scanSorted_stop ltInt dk m m (Or.inl hlt)])
          have HM := Lib.hid (And.intro hsp hsc)
          clear hsp hsc
          go_wp2_with fail
          go_quiet (fail)
          go_wp2_with fail
          go_ret
          have hr := HO.out.2
          rw [pi_true ltInt a m s i dk hs HK.out] at hr
          rw [← hr]
          exact ⟨rfl, by first | exact HM.out.1.drewN _ | exact (HM.out.1.drewN _).drewN _⟩
    · have hsI : decide ((s : Int) < 5) = false := decide_eq_false (by omega)
      have hsP : ¬ (s : Int) < 5 := by omega
      obtain rfl : s = 5 := by omega
      go_wp2_with fail
      go_ret
      have hr := HO.out.2
      rw [pi_end] at hr
      rw [← hr]
      exact ⟨rfl, HO.out.1⟩
end Go.Proofs.YtpcffnhbodjpbaaGreatDoor
