/- The walk of partition at unsigned numbers. -/
import Derived.Test.YtpcffnhbodjpbaaGreatDoorSrt9
import Derived.Sort.WalkC4
set_option linter.unusedVariables false
set_option linter.unusedSimpArgs false
namespace Go.Proofs.YtpcffnhbodjpbaaGreatDoor
open Go.RowKit Go.Sort

set_option maxRecDepth 100000 in
set_option maxHeartbeats 6400000 in
theorem part_u32 (blk off cap a b pivot : Nat) (d : Array Int) (w : World) (h : Holds (Value.int .u32) w blk off d) (hab : a < b) (hb : b ≤ d.size) (hp : pivot < d.size) (hd : d.size ≤ 1048576) :
    Calls Tryz.prog 97 #[.slice (some ⟨blk, off, none⟩) d.size cap, .int .i64 a, .int .i64 b, .int .i64 pivot] w fun e w' => e = .returned (.tuple #[.int .i64 (partition ltInt d a b pivot).1, .bool (partition ltInt d a b pivot).2.1]) ∧ SP w blk off (partition ltInt d a b pivot).2.2 w' := by
  obtain ⟨n, hn⟩ : ∃ n, d.size = n := ⟨_, rfl⟩
  obtain ⟨b1, hb1⟩ : ∃ b1, b - 1 = b1 := ⟨_, rfl⟩
  have hbI : (b : Int) - 1 = (b1 : Int) := by omega
  obtain ⟨ca, fa⟩ := h a (by omega)
  obtain ⟨cp, fp⟩ := h pivot hp
  obtain ⟨xa, hxa⟩ : ∃ x, d[a]! = x := ⟨_, rfl⟩
  obtain ⟨xp, hxp⟩ : ∃ x, d[pivot]! = x := ⟨_, rfl⟩
  rw [hxa] at ca
  rw [hxp] at cp
  obtain ⟨y, hy⟩ := cell?_setCell_some (w := w) (p := ⟨blk, off + a, none⟩) (x := .int .u32 xp) (q := ⟨blk, off + pivot, none⟩) (v := .int .u32 xp) cp
  have hsw : Hid (∀ W, SP w blk off d W → SP w blk off (swp d a pivot) ((W.setCell ⟨blk, off + a, none⟩ (.int .u32 xp)).setCell ⟨blk, off + pivot, none⟩ (.int .u32 xa))) := Lib.hid (fun W hW => by
    have := hW.swp (i := a) (j := pivot) (by omega) (by omega)
    rw [hxa, hxp] at this
    exact this)
  have HS := Lib.hid (And.intro (SP.start h) (And.intro hn hb1))
  rw [hn] at hb hd hp ⊢
  have hlt1 : b1 < n := by omega
  have hab1 : a ≤ b1 := by omega
  have hbb : b1 + 1 = b := by omega
  clear h hn hb1 hxa hxp
  have hd1 : (n : Int) ≤ 1048576 := by omega
  have han : (a : Int) < n := by omega
  have hpn : (pivot : Int) < n := by omega
  go_enter Tryz.func97, Tryz.ntmps97
  go_wp2_with fail
  go_region
  all_goals
    go_wp2_with fail
    clear ca fa cp fp hy
    have HW0 : Hid (SP w blk off (swp d a pivot) _) := Lib.hid (by first | exact (hsw.out _ HS.out.1).drew | exact hsw.out _ HS.out.1.drew)
    have hai : a < a + 1 := by omega
    obtain ⟨dk, hdk⟩ : ∃ dk, swp d a pivot = dk := ⟨_, rfl⟩
    have HD0 : Hid (dk = swp d a pivot) := Lib.hid hdk.symm
    have HDK : Hid (dk.size = n) := Lib.hid (by rw [← hdk, swp_size]; exact HS.out.2.1)
    rw [hdk] at HW0
    have HW1 := HW0
    obtain ⟨pv, hpv⟩ : ∃ x, dk[a]! = x := ⟨_, rfl⟩
    have HPV := Lib.hid hpv
    clear hdk hpv HW0
    go_loopw [10] (fun vi wr => ∃ m : Nat, vi = .int .i64 m ∧ (a + 1) ≤ m ∧ m ≤ b1 + 1 ∧ SP w blk off dk wr ∧ scanUp (fun x => ltInt x dk[a]!) dk b1 m = scanUp (fun x => ltInt x dk[a]!) dk b1 (a + 1)) (fun vi _ => b1 + 1 - (intOf vi).toNat)
    case atStart => exact ⟨(a + 1), by first | rfl | go_num, Nat.le_refl _, by omega, by first | exact HW1.out | exact HW1.out.drewN _, rfl⟩
    case round =>
      obtain ⟨mi, rfl, hImi, hmiJ, hsp, hsc⟩ := hrel
      obtain ⟨wmi, rfl⟩ : ∃ wo : World, wo = wr := ⟨_, rfl⟩
      by_cases hle : mi ≤ b1
      · obtain ⟨x, hx⟩ : ∃ x, dk[mi]! = x := ⟨_, rfl⟩
        obtain ⟨ca, fa⟩ := hsp.1 a (by have := HDK.out; omega)
        obtain ⟨cm, fm⟩ := hsp.1 mi (by have := HDK.out; omega)
        rw [HPV.out] at ca
        rw [hx] at cm
        have hleI : (mi : Int) ≤ b1 := by omega
        have hmn : (mi : Int) < n := by omega
        have han : (a : Int) < n := by omega
        have HMu := Lib.hid (And.intro hsp (And.intro hsc hx))
        clear hsp hsc hx
        cases hl : ltInt x pv with
        | true =>
          have HL := Lib.hid hl
          go_wp2_with fail
          go_quiet ((go_at_call 95; first | exact Calls.quiet_of_same (less_is _ _ _ HL.out _) | exact quietA (less_is _ _ _ HL.out _)))
          go_wp2_with fail
          refine ⟨⟨mi + 1, by first | rfl | go_num, by omega, by omega, HMu.out.1.drewN _, ?_⟩, by simp [intOf]; omega⟩
          rw [← HMu.out.2.1]
          exact (scanUp_go (fun x => ltInt x dk[a]!) dk b1 mi hle (by simp [HPV.out, HMu.out.2.2, HL.out])).symm
        | false =>
          have HL := Lib.hid hl
          go_wp2_with fail
          go_quiet ((go_at_call 95; first | exact Calls.quiet_of_same (less_is _ _ _ HL.out _) | exact quietA (less_is _ _ _ HL.out _)))
          go_wp2_with fail
          have HEu : Hid (mi = scanUp (fun x => ltInt x dk[a]!) dk b1 (a + 1) ∧ SP w blk off dk wmi) := Lib.hid ⟨(scanUp_end (fun x => ltInt x dk[a]!) dk b1 mi (Or.inr (by simp [HPV.out, HMu.out.2.2, HL.out]))).symm.trans HMu.out.2.1, HMu.out.1⟩
          clear ca fa cm fm hl hleI hmn han hle
          go_loopw [11] (fun vi wr => ∃ m : Nat, vi = .int .i64 m ∧ mi ≤ m + 1 ∧ m ≤ b1 ∧ SP w blk off dk wr ∧ scanDown (fun x => !ltInt x dk[a]!) dk mi m = scanDown (fun x => !ltInt x dk[a]!) dk mi b1) (fun vi _ => (intOf vi).toNat)
          case atStart => exact ⟨b1, by first | rfl | go_num, by omega, Nat.le_refl _, by first | exact HEu.out.2.drewN _ | exact (HEu.out.2.drewN _).drewN _, rfl⟩
          case round =>
            obtain ⟨mj, rfl, hImj, hmjJ, hsp, hsc⟩ := hrel
            obtain ⟨wmj, rfl⟩ : ∃ wo : World, wo = wr := ⟨_, rfl⟩
            by_cases hle : mi ≤ mj
            · obtain ⟨x, hx⟩ : ∃ x, dk[mj]! = x := ⟨_, rfl⟩
              obtain ⟨ca, fa⟩ := hsp.1 a (by have := HDK.out; omega)
              obtain ⟨cm, fm⟩ := hsp.1 mj (by have := HDK.out; omega)
              rw [HPV.out] at ca
              rw [hx] at cm
              have hleI : (mi : Int) ≤ mj := by omega
              have hmn : (mj : Int) < n := by omega
              have han : (a : Int) < n := by omega
              have HMd := Lib.hid (And.intro hsp (And.intro hsc hx))
              clear hsp hsc hx
              cases hl : ltInt x pv with
              | false =>
                have HL := Lib.hid hl
                obtain ⟨m1, hm1⟩ : ∃ m1, mj - 1 = m1 := ⟨_, rfl⟩
                have hm1I : (mj : Int) - 1 = (m1 : Int) := by omega
                have HM1 := Lib.hid hm1
                have hm1b : m1 + 1 = mj := by omega
                have hm1c : mi ≤ m1 + 1 := by omega
                clear hm1
                go_wp2_with fail
                go_quiet ((go_at_call 95; first | exact Calls.quiet_of_same (less_is _ _ _ HL.out _) | exact quietA (less_is _ _ _ HL.out _)))
                go_wp2_with fail
                refine ⟨⟨m1, by first | rfl | go_num, by omega, by omega, HMd.out.1.drewN _, ?_⟩, by simp [intOf]; omega⟩
                rw [← HMd.out.2.1, ← HM1.out]
                exact (scanDown_go (fun x => !ltInt x dk[a]!) dk mi mj hle (by omega) (by simp [HPV.out, HMd.out.2.2, HL.out])).symm
              | true =>
                have HL := Lib.hid hl
                have hgtI : decide ((mj : Int) < mi) = false := decide_eq_false (by omega)
                have hgtN : decide (mj < mi) = false := decide_eq_false (by omega)
                have hgtP : ¬ (mj : Int) < mi := by omega
                have hgt : ¬ mj < mi := by omega
                go_wp2_with fail
                go_quiet ((go_at_call 95; first | exact Calls.quiet_of_same (less_is _ _ _ HL.out _) | exact quietA (less_is _ _ _ HL.out _)))
                go_wp2_with fail
                have HEd : Hid (mj = scanDown (fun x => !ltInt x dk[a]!) dk mi b1 ∧ SP w blk off dk wmj) := Lib.hid ⟨(scanDown_end (fun x => !ltInt x dk[a]!) dk mi mj (Or.inr (by simp [HPV.out, HMd.out.2.2, HL.out]))).symm.trans HMd.out.2.1, HMd.out.1⟩
                clear ca fa cm fm hl hleI hmn han hle
                have hlt := part_scans_lt ltInt a (a + 1) b1 dk (by omega) HEu.out.1 HEd.out.1 (by omega)
                have hltI : (mi : Int) < mj := by omega
                obtain ⟨c0, f0⟩ := HEd.out.2.1 mi (by have := HDK.out; omega)
                obtain ⟨c1, f1⟩ := HEd.out.2.1 mj (by have := HDK.out; omega)
                obtain ⟨x0, hx0⟩ : ∃ x, dk[mi]! = x := ⟨_, rfl⟩
                obtain ⟨x1, hx1⟩ : ∃ x, dk[mj]! = x := ⟨_, rfl⟩
                rw [hx0] at c0
                rw [hx1] at c1
                have HX := Lib.hid (And.intro hx0 hx1)
                obtain ⟨y, hy⟩ := cell?_setCell_some (w := wmj) (p := ⟨blk, off + mi, none⟩) (x := .int .u32 x1) (q := ⟨blk, off + mj, none⟩) (v := .int .u32 x1) c1
                obtain ⟨m1, hm1⟩ : ∃ m1, mj - 1 = m1 := ⟨_, rfl⟩
                have hm1I : (mj : Int) - 1 = (m1 : Int) := by omega
                have hm1b : m1 + 1 = mj := by omega
                have HM1 := Lib.hid hm1
                have hjn2 : (mj : Int) < n := by omega
                clear hx0 hx1 hm1
                go_wp2_with fail
                go_region
                all_goals
                  go_wp2_with fail
                  have hs2 := fun W (hW : SP w blk off dk W) => hW.swp (i := mi) (j := mj) (by have := HDK.out; omega) (by have := HDK.out; omega)
                  rw [HX.out.1, HX.out.2] at hs2
                  have HS2 := Lib.hid hs2
                  clear hs2 c0 f0 c1 f1 hy
                  have HR1 := Lib.hid (part_first_go ltInt d a b pivot rfl HS.out.2.2.symm HD0.out HEu.out.1 HEd.out.1 hgt)
                  rw [HM1.out] at HR1
                  obtain ⟨R, hR⟩ : ∃ R, partLoop ltInt a (mi + 1) m1 (swp dk mi mj) = R := ⟨_, rfl⟩
                  rw [hR] at HR1
                  have HR0 := HR1
                  have HRR := Lib.hid hR
                  clear HR1 hR
                  go_loopw [10, 11] (fun i j wr => ∃ (p q : Nat) (dk : Array Int), i = .int .i64 p ∧ j = .int .i64 q ∧ a < p ∧ p ≤ q + 1 ∧ q < n ∧ dk.size = n ∧ SP w blk off dk wr ∧ partLoop ltInt a p q dk = R) (fun i j _ => (intOf j).toNat + 1 - (intOf i).toNat)
                  case atStart => exact ⟨mi + 1, m1, swp dk mi mj, by first | rfl | go_num, by first | rfl | go_num, by omega, by omega, by omega, by rw [swp_size]; exact HDK.out, by first | exact HS2.out _ (HEd.out.2.drewN (nq + 1)) | exact (HS2.out _ (HEd.out.2.drewN nq)).drew | exact HS2.out _ (HEd.out.2.drewN nq).drew, HRR.out⟩
                  case round =>
                    clear HPV HDK hlt hltI hgt hgtI hgtN hgtP
                    obtain ⟨i, j, dk, rfl, rfl, hai, hij, hjn, hdk, hsp, hr⟩ := hrel
                    obtain ⟨wo, rfl⟩ : ∃ wo : World, wo = wr := ⟨_, rfl⟩
                    have HO := Lib.hid (And.intro hsp hr)
                    have HDK := Lib.hid hdk
                    obtain ⟨pv, hpv⟩ : ∃ x, dk[a]! = x := ⟨_, rfl⟩
                    have HPV := Lib.hid hpv
                    clear hsp hr hdk hpv
                    go_wp2_with fail
                    go_loopw [10] (fun vi wr => ∃ m : Nat, vi = .int .i64 m ∧ i ≤ m ∧ m ≤ j + 1 ∧ SP w blk off dk wr ∧ scanUp (fun x => ltInt x dk[a]!) dk j m = scanUp (fun x => ltInt x dk[a]!) dk j i) (fun vi _ => j + 1 - (intOf vi).toNat)
                    case atStart => exact ⟨i, by first | rfl | go_num, Nat.le_refl _, by omega, by first | exact HO.out.1 | exact HO.out.1.drewN _, rfl⟩
                    case round =>
                      obtain ⟨ni, rfl, hIni, hniJ, hsp, hsc⟩ := hrel
                      obtain ⟨wni, rfl⟩ : ∃ wo : World, wo = wr := ⟨_, rfl⟩
                      by_cases hle : ni ≤ j
                      · obtain ⟨x, hx⟩ : ∃ x, dk[ni]! = x := ⟨_, rfl⟩
                        obtain ⟨ca, fa⟩ := hsp.1 a (by have := HDK.out; omega)
                        obtain ⟨cm, fm⟩ := hsp.1 ni (by have := HDK.out; omega)
                        rw [HPV.out] at ca
                        rw [hx] at cm
                        have hleI : (ni : Int) ≤ j := by omega
                        have hmn : (ni : Int) < n := by omega
                        have han : (a : Int) < n := by omega
                        have HMU := Lib.hid (And.intro hsp (And.intro hsc hx))
                        clear hsp hsc hx
                        cases hl : ltInt x pv with
                        | true =>
                          have HL := Lib.hid hl
                          go_wp2_with fail
                          go_quiet ((go_at_call 95; first | exact Calls.quiet_of_same (less_is _ _ _ HL.out _) | exact quietA (less_is _ _ _ HL.out _)))
                          go_wp2_with fail
                          refine ⟨⟨ni + 1, by first | rfl | go_num, by omega, by omega, HMU.out.1.drewN _, ?_⟩, by simp [intOf]; omega⟩
                          rw [← HMU.out.2.1]
                          exact (scanUp_go (fun x => ltInt x dk[a]!) dk j ni hle (by simp [HPV.out, HMU.out.2.2, HL.out])).symm
                        | false =>
                          have HL := Lib.hid hl
                          go_wp2_with fail
                          go_quiet ((go_at_call 95; first | exact Calls.quiet_of_same (less_is _ _ _ HL.out _) | exact quietA (less_is _ _ _ HL.out _)))
                          go_wp2_with fail
                          have HEU : Hid (ni = scanUp (fun x => ltInt x dk[a]!) dk j i ∧ SP w blk off dk wni) := Lib.hid ⟨(scanUp_end (fun x => ltInt x dk[a]!) dk j ni (Or.inr (by simp [HPV.out, HMU.out.2.2, HL.out]))).symm.trans HMU.out.2.1, HMU.out.1⟩
                          clear ca fa cm fm hl hleI hmn han hle
                          go_loopw [11] (fun vi wr => ∃ m : Nat, vi = .int .i64 m ∧ ni ≤ m + 1 ∧ m ≤ j ∧ SP w blk off dk wr ∧ scanDown (fun x => !ltInt x dk[a]!) dk ni m = scanDown (fun x => !ltInt x dk[a]!) dk ni j) (fun vi _ => (intOf vi).toNat)
                          case atStart => exact ⟨j, by first | rfl | go_num, by omega, Nat.le_refl _, by first | exact HEU.out.2.drewN _ | exact (HEU.out.2.drewN _).drewN _, rfl⟩
                          case round =>
                            obtain ⟨nj, rfl, hInj, hnjJ, hsp, hsc⟩ := hrel
                            obtain ⟨wnj, rfl⟩ : ∃ wo : World, wo = wr := ⟨_, rfl⟩
                            by_cases hle : ni ≤ nj
                            · obtain ⟨x, hx⟩ : ∃ x, dk[nj]! = x := ⟨_, rfl⟩
                              obtain ⟨ca, fa⟩ := hsp.1 a (by have := HDK.out; omega)
                              obtain ⟨cm, fm⟩ := hsp.1 nj (by have := HDK.out; omega)
                              rw [HPV.out] at ca
                              rw [hx] at cm
                              have hleI : (ni : Int) ≤ nj := by omega
                              have hmn : (nj : Int) < n := by omega
                              have han : (a : Int) < n := by omega
                              have HMD := Lib.hid (And.intro hsp (And.intro hsc hx))
                              clear hsp hsc hx
                              cases hl : ltInt x pv with
                              | false =>
                                have HL := Lib.hid hl
                                obtain ⟨m1, hm1⟩ : ∃ m1, nj - 1 = m1 := ⟨_, rfl⟩
                                have hm1I : (nj : Int) - 1 = (m1 : Int) := by omega
                                have HM1 := Lib.hid hm1
                                have hm1b : m1 + 1 = nj := by omega
                                have hm1c : ni ≤ m1 + 1 := by omega
                                clear hm1
                                go_wp2_with fail
                                go_quiet ((go_at_call 95; first | exact Calls.quiet_of_same (less_is _ _ _ HL.out _) | exact quietA (less_is _ _ _ HL.out _)))
                                go_wp2_with fail
                                refine ⟨⟨m1, by first | rfl | go_num, by omega, by omega, HMD.out.1.drewN _, ?_⟩, by simp [intOf]; omega⟩
                                rw [← HMD.out.2.1, ← HM1.out]
                                exact (scanDown_go (fun x => !ltInt x dk[a]!) dk ni nj hle (by omega) (by simp [HPV.out, HMD.out.2.2, HL.out])).symm
                              | true =>
                                have HL := Lib.hid hl
                                have hgtI : decide ((nj : Int) < ni) = false := decide_eq_false (by omega)
                                have hgtN : decide (nj < ni) = false := decide_eq_false (by omega)
                                have hgtP : ¬ (nj : Int) < ni := by omega
                                have hgt : ¬ nj < ni := by omega
                                go_wp2_with fail
                                go_quiet ((go_at_call 95; first | exact Calls.quiet_of_same (less_is _ _ _ HL.out _) | exact quietA (less_is _ _ _ HL.out _)))
                                go_wp2_with fail
                                have HED : Hid (nj = scanDown (fun x => !ltInt x dk[a]!) dk ni j ∧ SP w blk off dk wnj) := Lib.hid ⟨(scanDown_end (fun x => !ltInt x dk[a]!) dk ni nj (Or.inr (by simp [HPV.out, HMD.out.2.2, HL.out]))).symm.trans HMD.out.2.1, HMD.out.1⟩
                                clear ca fa cm fm hl hleI hmn han hle
                                have hlt := part_scans_lt ltInt a i j dk (by omega) HEU.out.1 HED.out.1 (by omega)
                                have hltI : (ni : Int) < nj := by omega
                                obtain ⟨c0, f0⟩ := HED.out.2.1 ni (by have := HDK.out; omega)
                                obtain ⟨c1, f1⟩ := HED.out.2.1 nj (by have := HDK.out; omega)
                                obtain ⟨x0, hx0⟩ : ∃ x, dk[ni]! = x := ⟨_, rfl⟩
                                obtain ⟨x1, hx1⟩ : ∃ x, dk[nj]! = x := ⟨_, rfl⟩
                                rw [hx0] at c0
                                rw [hx1] at c1
                                have HX := Lib.hid (And.intro hx0 hx1)
                                obtain ⟨y, hy⟩ := cell?_setCell_some (w := wnj) (p := ⟨blk, off + ni, none⟩) (x := .int .u32 x1) (q := ⟨blk, off + nj, none⟩) (v := .int .u32 x1) c1
                                obtain ⟨m1, hm1⟩ : ∃ m1, nj - 1 = m1 := ⟨_, rfl⟩
                                have hm1I : (nj : Int) - 1 = (m1 : Int) := by omega
                                have hm1b : m1 + 1 = nj := by omega
                                have HM1 := Lib.hid hm1
                                have hjn2 : (nj : Int) < n := by omega
                                clear hx0 hx1 hm1
                                go_wp2_with fail
                                go_region
                                all_goals
                                  go_wp2_with fail
                                  have hs2 := fun W (hW : SP w blk off dk W) => hW.swp (i := ni) (j := nj) (by have := HDK.out; omega) (by have := HDK.out; omega)
                                  rw [HX.out.1, HX.out.2] at hs2
                                  have HS2 := Lib.hid hs2
                                  clear hs2 c0 f0 c1 f1 hy
                                  refine ⟨⟨ni + 1, m1, swp dk ni nj, by first | rfl | go_num, by first | rfl | go_num, by omega, by omega, by omega, by rw [swp_size]; exact HDK.out, by first | exact HS2.out _ (HED.out.2.drewN (nq + 1)) | exact (HS2.out _ (HED.out.2.drewN nq)).drew | exact HS2.out _ (HED.out.2.drewN nq).drew, ?_⟩, by simp [intOf]; omega⟩
                                  rw [← HO.out.2, part_go ltInt a i j dk HEU.out.1 HED.out.1 hgt, HM1.out]
                            · have hleF : decide ((ni : Int) ≤ nj) = false := decide_eq_false (by omega)
                              have hleN : decide (ni ≤ nj) = false := decide_eq_false (by omega)
                              have hleP : ¬ (ni : Int) ≤ nj := by omega
                              have HED : Hid (nj = scanDown (fun x => !ltInt x dk[a]!) dk ni j ∧ SP w blk off dk wnj) := Lib.hid ⟨(scanDown_end (fun x => !ltInt x dk[a]!) dk ni nj (Or.inl hle)).symm.trans hsc, hsp⟩
                              clear hsp hsc
                              have hgtI : (nj : Int) < ni := by omega
                              have hgtN : nj < ni := by omega
                              go_wp2_with fail
                              go_quiet (fail)
                              go_wp2_with fail
                              clear hleF hleN hleP hle
                              obtain ⟨c0, f0⟩ := HED.out.2.1 nj (by have := HDK.out; omega)
                              obtain ⟨c1, f1⟩ := HED.out.2.1 a (by have := HDK.out; omega)
                              obtain ⟨x0, hx0⟩ : ∃ x, dk[nj]! = x := ⟨_, rfl⟩
                              rw [hx0] at c0
                              rw [HPV.out] at c1
                              have HX := Lib.hid hx0
                              have hjn2 : (nj : Int) < n := by omega
                              have han2 : (a : Int) < n := by omega
                              obtain ⟨y, hy⟩ := cell?_setCell_some (w := wnj) (p := ⟨blk, off + nj, none⟩) (x := .int .u32 pv) (q := ⟨blk, off + a, none⟩) (v := .int .u32 pv) c1
                              have hy2 : ((wnj.drewN (nq + 1)).setCell ⟨blk, off + nj, none⟩ (.int .u32 pv)).cell? ⟨blk, off + a, none⟩ = some y := hy
                              clear hx0
                              go_wp2_with fail
                              go_region
                              all_goals
                                go_wp2_with fail
                                go_ret2
                                have hs2 := fun W (hW : SP w blk off dk W) => hW.swp (i := nj) (j := a) (by have := HDK.out; omega) (by have := HDK.out; omega)
                                rw [HX.out, HPV.out] at hs2
                                have hr := HO.out.2
                                rw [part_break ltInt a i j dk HEU.out.1 HED.out.1 (by omega)] at hr
                                rw [HR0.out, ← hr]
                                exact ⟨rfl, by first | exact hs2 _ (HED.out.2.drewN (nq + 1)) | exact (hs2 _ (HED.out.2.drewN nq)).drew | exact hs2 _ (HED.out.2.drewN nq).drew⟩
                      · have hleF : decide ((ni : Int) ≤ j) = false := decide_eq_false (by omega)
                        have hleN : decide (ni ≤ j) = false := decide_eq_false (by omega)
                        have hleP : ¬ (ni : Int) ≤ j := by omega
                        have HEU : Hid (ni = scanUp (fun x => ltInt x dk[a]!) dk j i ∧ SP w blk off dk wni) := Lib.hid ⟨(scanUp_end (fun x => ltInt x dk[a]!) dk j ni (Or.inl hle)).symm.trans hsc, hsp⟩
                        clear hsp hsc
                        go_wp2_with fail
                        go_quiet (fail)
                        go_wp2_with fail
                        clear hleF hleN hleP hle
                        go_loopw [11] (fun vi wr => ∃ m : Nat, vi = .int .i64 m ∧ ni ≤ m + 1 ∧ m ≤ j ∧ SP w blk off dk wr ∧ scanDown (fun x => !ltInt x dk[a]!) dk ni m = scanDown (fun x => !ltInt x dk[a]!) dk ni j) (fun vi _ => (intOf vi).toNat)
                        case atStart => exact ⟨j, by first | rfl | go_num, by omega, Nat.le_refl _, by first | exact HEU.out.2.drewN _ | exact (HEU.out.2.drewN _).drewN _, rfl⟩
                        case round =>
                          obtain ⟨nj, rfl, hInj, hnjJ, hsp, hsc⟩ := hrel
                          obtain ⟨wnj, rfl⟩ : ∃ wo : World, wo = wr := ⟨_, rfl⟩
                          by_cases hle : ni ≤ nj
                          · obtain ⟨x, hx⟩ : ∃ x, dk[nj]! = x := ⟨_, rfl⟩
                            obtain ⟨ca, fa⟩ := hsp.1 a (by have := HDK.out; omega)
                            obtain ⟨cm, fm⟩ := hsp.1 nj (by have := HDK.out; omega)
                            rw [HPV.out] at ca
                            rw [hx] at cm
                            have hleI : (ni : Int) ≤ nj := by omega
                            have hmn : (nj : Int) < n := by omega
                            have han : (a : Int) < n := by omega
                            have HMD := Lib.hid (And.intro hsp (And.intro hsc hx))
                            clear hsp hsc hx
                            cases hl : ltInt x pv with
                            | false =>
                              have HL := Lib.hid hl
                              obtain ⟨m1, hm1⟩ : ∃ m1, nj - 1 = m1 := ⟨_, rfl⟩
                              have hm1I : (nj : Int) - 1 = (m1 : Int) := by omega
                              have HM1 := Lib.hid hm1
                              have hm1b : m1 + 1 = nj := by omega
                              have hm1c : ni ≤ m1 + 1 := by omega
                              clear hm1
                              go_wp2_with fail
                              go_quiet ((go_at_call 95; first | exact Calls.quiet_of_same (less_is _ _ _ HL.out _) | exact quietA (less_is _ _ _ HL.out _)))
                              go_wp2_with fail
                              refine ⟨⟨m1, by first | rfl | go_num, by omega, by omega, HMD.out.1.drewN _, ?_⟩, by simp [intOf]; omega⟩
                              rw [← HMD.out.2.1, ← HM1.out]
                              exact (scanDown_go (fun x => !ltInt x dk[a]!) dk ni nj hle (by omega) (by simp [HPV.out, HMD.out.2.2, HL.out])).symm
                            | true =>
                              have HL := Lib.hid hl
                              have hgtI : decide ((nj : Int) < ni) = false := decide_eq_false (by omega)
                              have hgtN : decide (nj < ni) = false := decide_eq_false (by omega)
                              have hgtP : ¬ (nj : Int) < ni := by omega
                              have hgt : ¬ nj < ni := by omega
                              go_wp2_with fail
                              go_quiet ((go_at_call 95; first | exact Calls.quiet_of_same (less_is _ _ _ HL.out _) | exact quietA (less_is _ _ _ HL.out _)))
                              go_wp2_with fail
                              have HED : Hid (nj = scanDown (fun x => !ltInt x dk[a]!) dk ni j ∧ SP w blk off dk wnj) := Lib.hid ⟨(scanDown_end (fun x => !ltInt x dk[a]!) dk ni nj (Or.inr (by simp [HPV.out, HMD.out.2.2, HL.out]))).symm.trans HMD.out.2.1, HMD.out.1⟩
                              clear ca fa cm fm hl hleI hmn han hle
                              have hlt := part_scans_lt ltInt a i j dk (by omega) HEU.out.1 HED.out.1 (by omega)
                              have hltI : (ni : Int) < nj := by omega
                              obtain ⟨c0, f0⟩ := HED.out.2.1 ni (by have := HDK.out; omega)
                              obtain ⟨c1, f1⟩ := HED.out.2.1 nj (by have := HDK.out; omega)
                              obtain ⟨x0, hx0⟩ : ∃ x, dk[ni]! = x := ⟨_, rfl⟩
                              obtain ⟨x1, hx1⟩ : ∃ x, dk[nj]! = x := ⟨_, rfl⟩
                              rw [hx0] at c0
                              rw [hx1] at c1
                              have HX := Lib.hid (And.intro hx0 hx1)
                              obtain ⟨y, hy⟩ := cell?_setCell_some (w := wnj) (p := ⟨blk, off + ni, none⟩) (x := .int .u32 x1) (q := ⟨blk, off + nj, none⟩) (v := .int .u32 x1) c1
                              obtain ⟨m1, hm1⟩ : ∃ m1, nj - 1 = m1 := ⟨_, rfl⟩
                              have hm1I : (nj : Int) - 1 = (m1 : Int) := by omega
                              have hm1b : m1 + 1 = nj := by omega
                              have HM1 := Lib.hid hm1
                              have hjn2 : (nj : Int) < n := by omega
                              clear hx0 hx1 hm1
                              go_wp2_with fail
                              go_region
                              all_goals
                                go_wp2_with fail
                                have hs2 := fun W (hW : SP w blk off dk W) => hW.swp (i := ni) (j := nj) (by have := HDK.out; omega) (by have := HDK.out; omega)
                                rw [HX.out.1, HX.out.2] at hs2
                                have HS2 := Lib.hid hs2
                                clear hs2 c0 f0 c1 f1 hy
                                refine ⟨⟨ni + 1, m1, swp dk ni nj, by first | rfl | go_num, by first | rfl | go_num, by omega, by omega, by omega, by rw [swp_size]; exact HDK.out, by first | exact HS2.out _ (HED.out.2.drewN (nq + 1)) | exact (HS2.out _ (HED.out.2.drewN nq)).drew | exact HS2.out _ (HED.out.2.drewN nq).drew, ?_⟩, by simp [intOf]; omega⟩
                                rw [← HO.out.2, part_go ltInt a i j dk HEU.out.1 HED.out.1 hgt, HM1.out]
                          · have hleF : decide ((ni : Int) ≤ nj) = false := decide_eq_false (by omega)
                            have hleN : decide (ni ≤ nj) = false := decide_eq_false (by omega)
                            have hleP : ¬ (ni : Int) ≤ nj := by omega
                            have HED : Hid (nj = scanDown (fun x => !ltInt x dk[a]!) dk ni j ∧ SP w blk off dk wnj) := Lib.hid ⟨(scanDown_end (fun x => !ltInt x dk[a]!) dk ni nj (Or.inl hle)).symm.trans hsc, hsp⟩
                            clear hsp hsc
                            have hgtI : (nj : Int) < ni := by omega
                            have hgtN : nj < ni := by omega
                            go_wp2_with fail
                            go_quiet (fail)
                            go_wp2_with fail
                            clear hleF hleN hleP hle
                            obtain ⟨c0, f0⟩ := HED.out.2.1 nj (by have := HDK.out; omega)
                            obtain ⟨c1, f1⟩ := HED.out.2.1 a (by have := HDK.out; omega)
                            obtain ⟨x0, hx0⟩ : ∃ x, dk[nj]! = x := ⟨_, rfl⟩
                            rw [hx0] at c0
                            rw [HPV.out] at c1
                            have HX := Lib.hid hx0
                            have hjn2 : (nj : Int) < n := by omega
                            have han2 : (a : Int) < n := by omega
                            obtain ⟨y, hy⟩ := cell?_setCell_some (w := wnj) (p := ⟨blk, off + nj, none⟩) (x := .int .u32 pv) (q := ⟨blk, off + a, none⟩) (v := .int .u32 pv) c1
                            have hy2 : ((wnj.drewN (nq + 1)).setCell ⟨blk, off + nj, none⟩ (.int .u32 pv)).cell? ⟨blk, off + a, none⟩ = some y := hy
                            clear hx0
                            go_wp2_with fail
                            go_region
                            all_goals
                              go_wp2_with fail
                              go_ret2
                              have hs2 := fun W (hW : SP w blk off dk W) => hW.swp (i := nj) (j := a) (by have := HDK.out; omega) (by have := HDK.out; omega)
                              rw [HX.out, HPV.out] at hs2
                              have hr := HO.out.2
                              rw [part_break ltInt a i j dk HEU.out.1 HED.out.1 (by omega)] at hr
                              rw [HR0.out, ← hr]
                              exact ⟨rfl, by first | exact hs2 _ (HED.out.2.drewN (nq + 1)) | exact (hs2 _ (HED.out.2.drewN nq)).drew | exact hs2 _ (HED.out.2.drewN nq).drew⟩
            · have hleF : decide ((mi : Int) ≤ mj) = false := decide_eq_false (by omega)
              have hleN : decide (mi ≤ mj) = false := decide_eq_false (by omega)
              have hleP : ¬ (mi : Int) ≤ mj := by omega
              have HEd : Hid (mj = scanDown (fun x => !ltInt x dk[a]!) dk mi b1 ∧ SP w blk off dk wmj) := Lib.hid ⟨(scanDown_end (fun x => !ltInt x dk[a]!) dk mi mj (Or.inl hle)).symm.trans hsc, hsp⟩
              clear hsp hsc
              have hgtI : (mj : Int) < mi := by omega
              have hgtN : mj < mi := by omega
              go_wp2_with fail
              go_quiet (fail)
              go_wp2_with fail
              clear hleF hleN hleP hle
              obtain ⟨c0, f0⟩ := HEd.out.2.1 mj (by have := HDK.out; omega)
              obtain ⟨c1, f1⟩ := HEd.out.2.1 a (by have := HDK.out; omega)
              obtain ⟨x0, hx0⟩ : ∃ x, dk[mj]! = x := ⟨_, rfl⟩
              rw [hx0] at c0
              rw [HPV.out] at c1
              have HX := Lib.hid hx0
              have hjn2 : (mj : Int) < n := by omega
              have han2 : (a : Int) < n := by omega
              obtain ⟨y, hy⟩ := cell?_setCell_some (w := wmj) (p := ⟨blk, off + mj, none⟩) (x := .int .u32 pv) (q := ⟨blk, off + a, none⟩) (v := .int .u32 pv) c1
              have hy2 : ((wmj.drewN (nq + 1)).setCell ⟨blk, off + mj, none⟩ (.int .u32 pv)).cell? ⟨blk, off + a, none⟩ = some y := hy
              clear hx0
              go_wp2_with fail
              go_region
              all_goals
                go_wp2_with fail
                go_ret2
                have hs2 := fun W (hW : SP w blk off dk W) => hW.swp (i := mj) (j := a) (by have := HDK.out; omega) (by have := HDK.out; omega)
                rw [HX.out, HPV.out] at hs2
                rw [part_first_break ltInt d a b pivot rfl HS.out.2.2.symm HD0.out HEu.out.1 HEd.out.1 (by omega)]
                exact ⟨rfl, by first | exact hs2 _ (HEd.out.2.drewN (nq + 1)) | exact (hs2 _ (HEd.out.2.drewN nq)).drew | exact hs2 _ (HEd.out.2.drewN nq).drew⟩
      · have hleF : decide ((mi : Int) ≤ b1) = false := decide_eq_false (by omega)
        have hleN : decide (mi ≤ b1) = false := decide_eq_false (by omega)
        have hleP : ¬ (mi : Int) ≤ b1 := by omega
        have HEu : Hid (mi = scanUp (fun x => ltInt x dk[a]!) dk b1 (a + 1) ∧ SP w blk off dk wmi) := Lib.hid ⟨(scanUp_end (fun x => ltInt x dk[a]!) dk b1 mi (Or.inl hle)).symm.trans hsc, hsp⟩
        clear hsp hsc
        go_wp2_with fail
        go_quiet (fail)
        go_wp2_with fail
        clear hleF hleN hleP hle
        go_loopw [11] (fun vi wr => ∃ m : Nat, vi = .int .i64 m ∧ mi ≤ m + 1 ∧ m ≤ b1 ∧ SP w blk off dk wr ∧ scanDown (fun x => !ltInt x dk[a]!) dk mi m = scanDown (fun x => !ltInt x dk[a]!) dk mi b1) (fun vi _ => (intOf vi).toNat)
        case atStart => exact ⟨b1, by first | rfl | go_num, by omega, Nat.le_refl _, by first | exact HEu.out.2.drewN _ | exact (HEu.out.2.drewN _).drewN _, rfl⟩
        case round =>
          obtain ⟨mj, rfl, hImj, hmjJ, hsp, hsc⟩ := hrel
          obtain ⟨wmj, rfl⟩ : ∃ wo : World, wo = wr := ⟨_, rfl⟩
          by_cases hle : mi ≤ mj
          · obtain ⟨x, hx⟩ : ∃ x, dk[mj]! = x := ⟨_, rfl⟩
            obtain ⟨ca, fa⟩ := hsp.1 a (by have := HDK.out; omega)
            obtain ⟨cm, fm⟩ := hsp.1 mj (by have := HDK.out; omega)
            rw [HPV.out] at ca
            rw [hx] at cm
            have hleI : (mi : Int) ≤ mj := by omega
            have hmn : (mj : Int) < n := by omega
            have han : (a : Int) < n := by omega
            have HMd := Lib.hid (And.intro hsp (And.intro hsc hx))
            clear hsp hsc hx
            cases hl : ltInt x pv with
            | false =>
              have HL := Lib.hid hl
              obtain ⟨m1, hm1⟩ : ∃ m1, mj - 1 = m1 := ⟨_, rfl⟩
              have hm1I : (mj : Int) - 1 = (m1 : Int) := by omega
              have HM1 := Lib.hid hm1
              have hm1b : m1 + 1 = mj := by omega
              have hm1c : mi ≤ m1 + 1 := by omega
              clear hm1
              go_wp2_with fail
              go_quiet ((go_at_call 95; first | exact Calls.quiet_of_same (less_is _ _ _ HL.out _) | exact quietA (less_is _ _ _ HL.out _)))
              go_wp2_with fail
              refine ⟨⟨m1, by first | rfl | go_num, by omega, by omega, HMd.out.1.drewN _, ?_⟩, by simp [intOf]; omega⟩
              rw [← HMd.out.2.1, ← HM1.out]
              exact (scanDown_go (fun x => !ltInt x dk[a]!) dk mi mj hle (by omega) (by simp [HPV.out, HMd.out.2.2, HL.out])).symm
            | true =>
              have HL := Lib.hid hl
              have hgtI : decide ((mj : Int) < mi) = false := decide_eq_false (by omega)
              have hgtN : decide (mj < mi) = false := decide_eq_false (by omega)
              have hgtP : ¬ (mj : Int) < mi := by omega
              have hgt : ¬ mj < mi := by omega
              go_wp2_with fail
              go_quiet ((go_at_call 95; first | exact Calls.quiet_of_same (less_is _ _ _ HL.out _) | exact quietA (less_is _ _ _ HL.out _)))
              go_wp2_with fail
              have HEd : Hid (mj = scanDown (fun x => !ltInt x dk[a]!) dk mi b1 ∧ SP w blk off dk wmj) := Lib.hid ⟨(scanDown_end (fun x => !ltInt x dk[a]!) dk mi mj (Or.inr (by simp [HPV.out, HMd.out.2.2, HL.out]))).symm.trans HMd.out.2.1, HMd.out.1⟩
              clear ca fa cm fm hl hleI hmn han hle
              have hlt := part_scans_lt ltInt a (a + 1) b1 dk (by omega) HEu.out.1 HEd.out.1 (by omega)
              have hltI : (mi : Int) < mj := by omega
              obtain ⟨c0, f0⟩ := HEd.out.2.1 mi (by have := HDK.out; omega)
              obtain ⟨c1, f1⟩ := HEd.out.2.1 mj (by have := HDK.out; omega)
              obtain ⟨x0, hx0⟩ : ∃ x, dk[mi]! = x := ⟨_, rfl⟩
              obtain ⟨x1, hx1⟩ : ∃ x, dk[mj]! = x := ⟨_, rfl⟩
              rw [hx0] at c0
              rw [hx1] at c1
              have HX := Lib.hid (And.intro hx0 hx1)
              obtain ⟨y, hy⟩ := cell?_setCell_some (w := wmj) (p := ⟨blk, off + mi, none⟩) (x := .int .u32 x1) (q := ⟨blk, off + mj, none⟩) (v := .int .u32 x1) c1
              obtain ⟨m1, hm1⟩ : ∃ m1, mj - 1 = m1 := ⟨_, rfl⟩
              have hm1I : (mj : Int) - 1 = (m1 : Int) := by omega
              have hm1b : m1 + 1 = mj := by omega
              have HM1 := Lib.hid hm1
              have hjn2 : (mj : Int) < n := by omega
              clear hx0 hx1 hm1
              go_wp2_with fail
              go_region
              all_goals
                go_wp2_with fail
                have hs2 := fun W (hW : SP w blk off dk W) => hW.swp (i := mi) (j := mj) (by have := HDK.out; omega) (by have := HDK.out; omega)
                rw [HX.out.1, HX.out.2] at hs2
                have HS2 := Lib.hid hs2
                clear hs2 c0 f0 c1 f1 hy
                have HR1 := Lib.hid (part_first_go ltInt d a b pivot rfl HS.out.2.2.symm HD0.out HEu.out.1 HEd.out.1 hgt)
                rw [HM1.out] at HR1
                obtain ⟨R, hR⟩ : ∃ R, partLoop ltInt a (mi + 1) m1 (swp dk mi mj) = R := ⟨_, rfl⟩
                rw [hR] at HR1
                have HR0 := HR1
                have HRR := Lib.hid hR
                clear HR1 hR
                go_loopw [10, 11] (fun i j wr => ∃ (p q : Nat) (dk : Array Int), i = .int .i64 p ∧ j = .int .i64 q ∧ a < p ∧ p ≤ q + 1 ∧ q < n ∧ dk.size = n ∧ SP w blk off dk wr ∧ partLoop ltInt a p q dk = R) (fun i j _ => (intOf j).toNat + 1 - (intOf i).toNat)
                case atStart => exact ⟨mi + 1, m1, swp dk mi mj, by first | rfl | go_num, by first | rfl | go_num, by omega, by omega, by omega, by rw [swp_size]; exact HDK.out, by first | exact HS2.out _ (HEd.out.2.drewN (nq + 1)) | exact (HS2.out _ (HEd.out.2.drewN nq)).drew | exact HS2.out _ (HEd.out.2.drewN nq).drew, HRR.out⟩
                case round =>
                  clear HPV HDK hlt hltI hgt hgtI hgtN hgtP
                  obtain ⟨i, j, dk, rfl, rfl, hai, hij, hjn, hdk, hsp, hr⟩ := hrel
                  obtain ⟨wo, rfl⟩ : ∃ wo : World, wo = wr := ⟨_, rfl⟩
                  have HO := Lib.hid (And.intro hsp hr)
                  have HDK := Lib.hid hdk
                  obtain ⟨pv, hpv⟩ : ∃ x, dk[a]! = x := ⟨_, rfl⟩
                  have HPV := Lib.hid hpv
                  clear hsp hr hdk hpv
                  go_wp2_with fail
                  go_loopw [10] (fun vi wr => ∃ m : Nat, vi = .int .i64 m ∧ i ≤ m ∧ m ≤ j + 1 ∧ SP w blk off dk wr ∧ scanUp (fun x => ltInt x dk[a]!) dk j m = scanUp (fun x => ltInt x dk[a]!) dk j i) (fun vi _ => j + 1 - (intOf vi).toNat)
                  case atStart => exact ⟨i, by first | rfl | go_num, Nat.le_refl _, by omega, by first | exact HO.out.1 | exact HO.out.1.drewN _, rfl⟩
                  case round =>
                    obtain ⟨ni, rfl, hIni, hniJ, hsp, hsc⟩ := hrel
                    obtain ⟨wni, rfl⟩ : ∃ wo : World, wo = wr := ⟨_, rfl⟩
                    by_cases hle : ni ≤ j
                    · obtain ⟨x, hx⟩ : ∃ x, dk[ni]! = x := ⟨_, rfl⟩
                      obtain ⟨ca, fa⟩ := hsp.1 a (by have := HDK.out; omega)
                      obtain ⟨cm, fm⟩ := hsp.1 ni (by have := HDK.out; omega)
                      rw [HPV.out] at ca
                      rw [hx] at cm
                      have hleI : (ni : Int) ≤ j := by omega
                      have hmn : (ni : Int) < n := by omega
                      have han : (a : Int) < n := by omega
                      have HMU := Lib.hid (And.intro hsp (And.intro hsc hx))
                      clear hsp hsc hx
                      cases hl : ltInt x pv with
                      | true =>
                        have HL := Lib.hid hl
                        go_wp2_with fail
                        go_quiet ((go_at_call 95; first | exact Calls.quiet_of_same (less_is _ _ _ HL.out _) | exact quietA (less_is _ _ _ HL.out _)))
                        go_wp2_with fail
                        refine ⟨⟨ni + 1, by first | rfl | go_num, by omega, by omega, HMU.out.1.drewN _, ?_⟩, by simp [intOf]; omega⟩
                        rw [← HMU.out.2.1]
                        exact (scanUp_go (fun x => ltInt x dk[a]!) dk j ni hle (by simp [HPV.out, HMU.out.2.2, HL.out])).symm
                      | false =>
                        have HL := Lib.hid hl
                        go_wp2_with fail
                        go_quiet ((go_at_call 95; first | exact Calls.quiet_of_same (less_is _ _ _ HL.out _) | exact quietA (less_is _ _ _ HL.out _)))
                        go_wp2_with fail
                        have HEU : Hid (ni = scanUp (fun x => ltInt x dk[a]!) dk j i ∧ SP w blk off dk wni) := Lib.hid ⟨(scanUp_end (fun x => ltInt x dk[a]!) dk j ni (Or.inr (by simp [HPV.out, HMU.out.2.2, HL.out]))).symm.trans HMU.out.2.1, HMU.out.1⟩
                        clear ca fa cm fm hl hleI hmn han hle
                        go_loopw [11] (fun vi wr => ∃ m : Nat, vi = .int .i64 m ∧ ni ≤ m + 1 ∧ m ≤ j ∧ SP w blk off dk wr ∧ scanDown (fun x => !ltInt x dk[a]!) dk ni m = scanDown (fun x => !ltInt x dk[a]!) dk ni j) (fun vi _ => (intOf vi).toNat)
                        case atStart => exact ⟨j, by first | rfl | go_num, by omega, Nat.le_refl _, by first | exact HEU.out.2.drewN _ | exact (HEU.out.2.drewN _).drewN _, rfl⟩
                        case round =>
                          obtain ⟨nj, rfl, hInj, hnjJ, hsp, hsc⟩ := hrel
                          obtain ⟨wnj, rfl⟩ : ∃ wo : World, wo = wr := ⟨_, rfl⟩
                          by_cases hle : ni ≤ nj
                          · obtain ⟨x, hx⟩ : ∃ x, dk[nj]! = x := ⟨_, rfl⟩
                            obtain ⟨ca, fa⟩ := hsp.1 a (by have := HDK.out; omega)
                            obtain ⟨cm, fm⟩ := hsp.1 nj (by have := HDK.out; omega)
                            rw [HPV.out] at ca
                            rw [hx] at cm
                            have hleI : (ni : Int) ≤ nj := by omega
                            have hmn : (nj : Int) < n := by omega
                            have han : (a : Int) < n := by omega
                            have HMD := Lib.hid (And.intro hsp (And.intro hsc hx))
                            clear hsp hsc hx
                            cases hl : ltInt x pv with
                            | false =>
                              have HL := Lib.hid hl
                              obtain ⟨m1, hm1⟩ : ∃ m1, nj - 1 = m1 := ⟨_, rfl⟩
                              have hm1I : (nj : Int) - 1 = (m1 : Int) := by omega
                              have HM1 := Lib.hid hm1
                              have hm1b : m1 + 1 = nj := by omega
                              have hm1c : ni ≤ m1 + 1 := by omega
                              clear hm1
                              go_wp2_with fail
                              go_quiet ((go_at_call 95; first | exact Calls.quiet_of_same (less_is _ _ _ HL.out _) | exact quietA (less_is _ _ _ HL.out _)))
                              go_wp2_with fail
                              refine ⟨⟨m1, by first | rfl | go_num, by omega, by omega, HMD.out.1.drewN _, ?_⟩, by simp [intOf]; omega⟩
                              rw [← HMD.out.2.1, ← HM1.out]
                              exact (scanDown_go (fun x => !ltInt x dk[a]!) dk ni nj hle (by omega) (by simp [HPV.out, HMD.out.2.2, HL.out])).symm
                            | true =>
                              have HL := Lib.hid hl
                              have hgtI : decide ((nj : Int) < ni) = false := decide_eq_false (by omega)
                              have hgtN : decide (nj < ni) = false := decide_eq_false (by omega)
                              have hgtP : ¬ (nj : Int) < ni := by omega
                              have hgt : ¬ nj < ni := by omega
                              go_wp2_with fail
                              go_quiet ((go_at_call 95; first | exact Calls.quiet_of_same (less_is _ _ _ HL.out _) | exact quietA (less_is _ _ _ HL.out _)))
                              go_wp2_with fail
                              have HED : Hid (nj = scanDown (fun x => !ltInt x dk[a]!) dk ni j ∧ SP w blk off dk wnj) := Lib.hid ⟨(scanDown_end (fun x => !ltInt x dk[a]!) dk ni nj (Or.inr (by simp [HPV.out, HMD.out.2.2, HL.out]))).symm.trans HMD.out.2.1, HMD.out.1⟩
                              clear ca fa cm fm hl hleI hmn han hle
                              have hlt := part_scans_lt ltInt a i j dk (by omega) HEU.out.1 HED.out.1 (by omega)
                              have hltI : (ni : Int) < nj := by omega
                              obtain ⟨c0, f0⟩ := HED.out.2.1 ni (by have := HDK.out; omega)
                              obtain ⟨c1, f1⟩ := HED.out.2.1 nj (by have := HDK.out; omega)
                              obtain ⟨x0, hx0⟩ : ∃ x, dk[ni]! = x := ⟨_, rfl⟩
                              obtain ⟨x1, hx1⟩ : ∃ x, dk[nj]! = x := ⟨_, rfl⟩
                              rw [hx0] at c0
                              rw [hx1] at c1
                              have HX := Lib.hid (And.intro hx0 hx1)
                              obtain ⟨y, hy⟩ := cell?_setCell_some (w := wnj) (p := ⟨blk, off + ni, none⟩) (x := .int .u32 x1) (q := ⟨blk, off + nj, none⟩) (v := .int .u32 x1) c1
                              obtain ⟨m1, hm1⟩ : ∃ m1, nj - 1 = m1 := ⟨_, rfl⟩
                              have hm1I : (nj : Int) - 1 = (m1 : Int) := by omega
                              have hm1b : m1 + 1 = nj := by omega
                              have HM1 := Lib.hid hm1
                              have hjn2 : (nj : Int) < n := by omega
                              clear hx0 hx1 hm1
                              go_wp2_with fail
                              go_region
                              all_goals
                                go_wp2_with fail
                                have hs2 := fun W (hW : SP w blk off dk W) => hW.swp (i := ni) (j := nj) (by have := HDK.out; omega) (by have := HDK.out; omega)
                                rw [HX.out.1, HX.out.2] at hs2
                                have HS2 := Lib.hid hs2
                                clear hs2 c0 f0 c1 f1 hy
                                refine ⟨⟨ni + 1, m1, swp dk ni nj, by first | rfl | go_num, by first | rfl | go_num, by omega, by omega, by omega, by rw [swp_size]; exact HDK.out, by first | exact HS2.out _ (HED.out.2.drewN (nq + 1)) | exact (HS2.out _ (HED.out.2.drewN nq)).drew | exact HS2.out _ (HED.out.2.drewN nq).drew, ?_⟩, by simp [intOf]; omega⟩
                                rw [← HO.out.2, part_go ltInt a i j dk HEU.out.1 HED.out.1 hgt, HM1.out]
                          · have hleF : decide ((ni : Int) ≤ nj) = false := decide_eq_false (by omega)
                            have hleN : decide (ni ≤ nj) = false := decide_eq_false (by omega)
                            have hleP : ¬ (ni : Int) ≤ nj := by omega
                            have HED : Hid (nj = scanDown (fun x => !ltInt x dk[a]!) dk ni j ∧ SP w blk off dk wnj) := Lib.hid ⟨(scanDown_end (fun x => !ltInt x dk[a]!) dk ni nj (Or.inl hle)).symm.trans hsc, hsp⟩
                            clear hsp hsc
                            have hgtI : (nj : Int) < ni := by omega
                            have hgtN : nj < ni := by omega
                            go_wp2_with fail
                            go_quiet (fail)
                            go_wp2_with fail
                            clear hleF hleN hleP hle
                            obtain ⟨c0, f0⟩ := HED.out.2.1 nj (by have := HDK.out; omega)
                            obtain ⟨c1, f1⟩ := HED.out.2.1 a (by have := HDK.out; omega)
                            obtain ⟨x0, hx0⟩ : ∃ x, dk[nj]! = x := ⟨_, rfl⟩
                            rw [hx0] at c0
                            rw [HPV.out] at c1
                            have HX := Lib.hid hx0
                            have hjn2 : (nj : Int) < n := by omega
                            have han2 : (a : Int) < n := by omega
                            obtain ⟨y, hy⟩ := cell?_setCell_some (w := wnj) (p := ⟨blk, off + nj, none⟩) (x := .int .u32 pv) (q := ⟨blk, off + a, none⟩) (v := .int .u32 pv) c1
                            have hy2 : ((wnj.drewN (nq + 1)).setCell ⟨blk, off + nj, none⟩ (.int .u32 pv)).cell? ⟨blk, off + a, none⟩ = some y := hy
                            clear hx0
                            go_wp2_with fail
                            go_region
                            all_goals
                              go_wp2_with fail
                              go_ret2
                              have hs2 := fun W (hW : SP w blk off dk W) => hW.swp (i := nj) (j := a) (by have := HDK.out; omega) (by have := HDK.out; omega)
                              rw [HX.out, HPV.out] at hs2
                              have hr := HO.out.2
                              rw [part_break ltInt a i j dk HEU.out.1 HED.out.1 (by omega)] at hr
                              rw [HR0.out, ← hr]
                              exact ⟨rfl, by first | exact hs2 _ (HED.out.2.drewN (nq + 1)) | exact (hs2 _ (HED.out.2.drewN nq)).drew | exact hs2 _ (HED.out.2.drewN nq).drew⟩
                    · have hleF : decide ((ni : Int) ≤ j) = false := decide_eq_false (by omega)
                      have hleN : decide (ni ≤ j) = false := decide_eq_false (by omega)
                      have hleP : ¬ (ni : Int) ≤ j := by omega
                      have HEU : Hid (ni = scanUp (fun x => ltInt x dk[a]!) dk j i ∧ SP w blk off dk wni) := Lib.hid ⟨(scanUp_end (fun x => ltInt x dk[a]!) dk j ni (Or.inl hle)).symm.trans hsc, hsp⟩
                      clear hsp hsc
                      go_wp2_with fail
                      go_quiet (fail)
                      go_wp2_with fail
                      clear hleF hleN hleP hle
                      go_loopw [11] (fun vi wr => ∃ m : Nat, vi = .int .i64 m ∧ ni ≤ m + 1 ∧ m ≤ j ∧ SP w blk off dk wr ∧ scanDown (fun x => !ltInt x dk[a]!) dk ni m = scanDown (fun x => !ltInt x dk[a]!) dk ni j) (fun vi _ => (intOf vi).toNat)
                      case atStart => exact ⟨j, by first | rfl | go_num, by omega, Nat.le_refl _, by first | exact HEU.out.2.drewN _ | exact (HEU.out.2.drewN _).drewN _, rfl⟩
                      case round =>
                        obtain ⟨nj, rfl, hInj, hnjJ, hsp, hsc⟩ := hrel
                        obtain ⟨wnj, rfl⟩ : ∃ wo : World, wo = wr := ⟨_, rfl⟩
                        by_cases hle : ni ≤ nj
                        · obtain ⟨x, hx⟩ : ∃ x, dk[nj]! = x := ⟨_, rfl⟩
                          obtain ⟨ca, fa⟩ := hsp.1 a (by have := HDK.out; omega)
                          obtain ⟨cm, fm⟩ := hsp.1 nj (by have := HDK.out; omega)
                          rw [HPV.out] at ca
                          rw [hx] at cm
                          have hleI : (ni : Int) ≤ nj := by omega
                          have hmn : (nj : Int) < n := by omega
                          have han : (a : Int) < n := by omega
                          have HMD := Lib.hid (And.intro hsp (And.intro hsc hx))
                          clear hsp hsc hx
                          cases hl : ltInt x pv with
                          | false =>
                            have HL := Lib.hid hl
                            obtain ⟨m1, hm1⟩ : ∃ m1, nj - 1 = m1 := ⟨_, rfl⟩
                            have hm1I : (nj : Int) - 1 = (m1 : Int) := by omega
                            have HM1 := Lib.hid hm1
                            have hm1b : m1 + 1 = nj := by omega
                            have hm1c : ni ≤ m1 + 1 := by omega
                            clear hm1
                            go_wp2_with fail
                            go_quiet ((go_at_call 95; first | exact Calls.quiet_of_same (less_is _ _ _ HL.out _) | exact quietA (less_is _ _ _ HL.out _)))
                            go_wp2_with fail
                            refine ⟨⟨m1, by first | rfl | go_num, by omega, by omega, HMD.out.1.drewN _, ?_⟩, by simp [intOf]; omega⟩
                            rw [← HMD.out.2.1, ← HM1.out]
                            exact (scanDown_go (fun x => !ltInt x dk[a]!) dk ni nj hle (by omega) (by simp [HPV.out, HMD.out.2.2, HL.out])).symm
                          | true =>
                            have HL := Lib.hid hl
                            have hgtI : decide ((nj : Int) < ni) = false := decide_eq_false (by omega)
                            have hgtN : decide (nj < ni) = false := decide_eq_false (by omega)
                            have hgtP : ¬ (nj : Int) < ni := by omega
                            have hgt : ¬ nj < ni := by omega
                            go_wp2_with fail
                            go_quiet ((go_at_call 95; first | exact Calls.quiet_of_same (less_is _ _ _ HL.out _) | exact quietA (less_is _ _ _ HL.out _)))
                            go_wp2_with fail
                            have HED : Hid (nj = scanDown (fun x => !ltInt x dk[a]!) dk ni j ∧ SP w blk off dk wnj) := Lib.hid ⟨(scanDown_end (fun x => !ltInt x dk[a]!) dk ni nj (Or.inr (by simp [HPV.out, HMD.out.2.2, HL.out]))).symm.trans HMD.out.2.1, HMD.out.1⟩
                            clear ca fa cm fm hl hleI hmn han hle
                            have hlt := part_scans_lt ltInt a i j dk (by omega) HEU.out.1 HED.out.1 (by omega)
                            have hltI : (ni : Int) < nj := by omega
                            obtain ⟨c0, f0⟩ := HED.out.2.1 ni (by have := HDK.out; omega)
                            obtain ⟨c1, f1⟩ := HED.out.2.1 nj (by have := HDK.out; omega)
                            obtain ⟨x0, hx0⟩ : ∃ x, dk[ni]! = x := ⟨_, rfl⟩
                            obtain ⟨x1, hx1⟩ : ∃ x, dk[nj]! = x := ⟨_, rfl⟩
                            rw [hx0] at c0
                            rw [hx1] at c1
                            have HX := Lib.hid (And.intro hx0 hx1)
                            obtain ⟨y, hy⟩ := cell?_setCell_some (w := wnj) (p := ⟨blk, off + ni, none⟩) (x := .int .u32 x1) (q := ⟨blk, off + nj, none⟩) (v := .int .u32 x1) c1
                            obtain ⟨m1, hm1⟩ : ∃ m1, nj - 1 = m1 := ⟨_, rfl⟩
                            have hm1I : (nj : Int) - 1 = (m1 : Int) := by omega
                            have hm1b : m1 + 1 = nj := by omega
                            have HM1 := Lib.hid hm1
                            have hjn2 : (nj : Int) < n := by omega
                            clear hx0 hx1 hm1
                            go_wp2_with fail
                            go_region
                            all_goals
                              go_wp2_with fail
                              have hs2 := fun W (hW : SP w blk off dk W) => hW.swp (i := ni) (j := nj) (by have := HDK.out; omega) (by have := HDK.out; omega)
                              rw [HX.out.1, HX.out.2] at hs2
                              have HS2 := Lib.hid hs2
                              clear hs2 c0 f0 c1 f1 hy
                              refine ⟨⟨ni + 1, m1, swp dk ni nj, by first | rfl | go_num, by first | rfl | go_num, by omega, by omega, by omega, by rw [swp_size]; exact HDK.out, by first | exact HS2.out _ (HED.out.2.drewN (nq + 1)) | exact (HS2.out _ (HED.out.2.drewN nq)).drew | exact HS2.out _ (HED.out.2.drewN nq).drew, ?_⟩, by simp [intOf]; omega⟩
                              rw [← HO.out.2, part_go ltInt a i j dk HEU.out.1 HED.out.1 hgt, HM1.out]
                        · have hleF : decide ((ni : Int) ≤ nj) = false := decide_eq_false (by omega)
                          have hleN : decide (ni ≤ nj) = false := decide_eq_false (by omega)
                          have hleP : ¬ (ni : Int) ≤ nj := by omega
                          have HED : Hid (nj = scanDown (fun x => !ltInt x dk[a]!) dk ni j ∧ SP w blk off dk wnj) := Lib.hid ⟨(scanDown_end (fun x => !ltInt x dk[a]!) dk ni nj (Or.inl hle)).symm.trans hsc, hsp⟩
                          clear hsp hsc
                          have hgtI : (nj : Int) < ni := by omega
                          have hgtN : nj < ni := by omega
                          go_wp2_with fail
                          go_quiet (fail)
                          go_wp2_with fail
                          clear hleF hleN hleP hle
                          obtain ⟨c0, f0⟩ := HED.out.2.1 nj (by have := HDK.out; omega)
                          obtain ⟨c1, f1⟩ := HED.out.2.1 a (by have := HDK.out; omega)
                          obtain ⟨x0, hx0⟩ : ∃ x, dk[nj]! = x := ⟨_, rfl⟩
                          rw [hx0] at c0
                          rw [HPV.out] at c1
                          have HX := Lib.hid hx0
                          have hjn2 : (nj : Int) < n := by omega
                          have han2 : (a : Int) < n := by omega
                          obtain ⟨y, hy⟩ := cell?_setCell_some (w := wnj) (p := ⟨blk, off + nj, none⟩) (x := .int .u32 pv) (q := ⟨blk, off + a, none⟩) (v := .int .u32 pv) c1
                          have hy2 : ((wnj.drewN (nq + 1)).setCell ⟨blk, off + nj, none⟩ (.int .u32 pv)).cell? ⟨blk, off + a, none⟩ = some y := hy
                          clear hx0
                          go_wp2_with fail
                          go_region
                          all_goals
                            go_wp2_with fail
                            go_ret2
                            have hs2 := fun W (hW : SP w blk off dk W) => hW.swp (i := nj) (j := a) (by have := HDK.out; omega) (by have := HDK.out; omega)
                            rw [HX.out, HPV.out] at hs2
                            have hr := HO.out.2
                            rw [part_break ltInt a i j dk HEU.out.1 HED.out.1 (by omega)] at hr
                            rw [HR0.out, ← hr]
                            exact ⟨rfl, by first | exact hs2 _ (HED.out.2.drewN (nq + 1)) | exact (hs2 _ (HED.out.2.drewN nq)).drew | exact hs2 _ (HED.out.2.drewN nq).drew⟩
          · have hleF : decide ((mi : Int) ≤ mj) = false := decide_eq_false (by omega)
            have hleN : decide (mi ≤ mj) = false := decide_eq_false (by omega)
            have hleP : ¬ (mi : Int) ≤ mj := by omega
            have HEd : Hid (mj = scanDown (fun x => !ltInt x dk[a]!) dk mi b1 ∧ SP w blk off dk wmj) := Lib.hid ⟨(scanDown_end (fun x => !ltInt x dk[a]!) dk mi mj (Or.inl hle)).symm.trans hsc, hsp⟩
            clear hsp hsc
            have hgtI : (mj : Int) < mi := by omega
            have hgtN : mj < mi := by omega
            go_wp2_with fail
            go_quiet (fail)
            go_wp2_with fail
            clear hleF hleN hleP hle
            obtain ⟨c0, f0⟩ := HEd.out.2.1 mj (by have := HDK.out; omega)
            obtain ⟨c1, f1⟩ := HEd.out.2.1 a (by have := HDK.out; omega)
            obtain ⟨x0, hx0⟩ : ∃ x, dk[mj]! = x := ⟨_, rfl⟩
            rw [hx0] at c0
            rw [HPV.out] at c1
            have HX := Lib.hid hx0
            have hjn2 : (mj : Int) < n := by omega
            have han2 : (a : Int) < n := by omega
            obtain ⟨y, hy⟩ := cell?_setCell_some (w := wmj) (p := ⟨blk, off + mj, none⟩) (x := .int .u32 pv) (q := ⟨blk, off + a, none⟩) (v := .int .u32 pv) c1
            have hy2 : ((wmj.drewN (nq + 1)).setCell ⟨blk, off + mj, none⟩ (.int .u32 pv)).cell? ⟨blk, off + a, none⟩ = some y := hy
            clear hx0
            go_wp2_with fail
            go_region
            all_goals
              go_wp2_with fail
              go_ret2
              have hs2 := fun W (hW : SP w blk off dk W) => hW.swp (i := mj) (j := a) (by have := HDK.out; omega) (by have := HDK.out; omega)
              rw [HX.out, HPV.out] at hs2
              rw [part_first_break ltInt d a b pivot rfl HS.out.2.2.symm HD0.out HEu.out.1 HEd.out.1 (by omega)]
              exact ⟨rfl, by first | exact hs2 _ (HEd.out.2.drewN (nq + 1)) | exact (hs2 _ (HEd.out.2.drewN nq)).drew | exact hs2 _ (HEd.out.2.drewN nq).drew⟩
end Go.Proofs.YtpcffnhbodjpbaaGreatDoor
