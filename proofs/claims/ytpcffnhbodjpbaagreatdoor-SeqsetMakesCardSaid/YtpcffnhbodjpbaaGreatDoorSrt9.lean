/- The walk of partitionEqual at unsigned numbers. -/
import Derived.Test.YtpcffnhbodjpbaaGreatDoorSrt8
import Derived.Sort.WalkC
set_option linter.unusedVariables false
set_option linter.unusedSimpArgs false
namespace Go.Proofs.YtpcffnhbodjpbaaGreatDoor
open Go.RowKit Go.Sort

set_option maxRecDepth 100000 in
set_option maxHeartbeats 6400000 in
theorem partEq_u32 (blk off cap a b pivot : Nat) (d : Array Int) (w : World) (h : Holds (Value.int .u32) w blk off d) (hab : a < b) (hb : b ≤ d.size) (hp : pivot < d.size) (hd : d.size ≤ 1048576) :
    Calls Tryz.prog 96 #[.slice (some ⟨blk, off, none⟩) d.size cap, .int .i64 a, .int .i64 b, .int .i64 pivot] w fun e w' => e = .returned (.int .i64 (partitionEqual ltInt d a b pivot).1) ∧ SP w blk off (partitionEqual ltInt d a b pivot).2 w' := by
  obtain ⟨n, hn⟩ : ∃ n, d.size = n := ⟨_, rfl⟩
  obtain ⟨b1, hb1⟩ : ∃ b1, b - 1 = b1 := ⟨_, rfl⟩
  have hbI : (b : Int) - 1 = (b1 : Int) := by omega
  obtain ⟨ca, fa⟩ := h a (by omega)
  obtain ⟨cp, fp⟩ := h pivot hp
  obtain ⟨xa, hxa⟩ : ∃ x, d[a]! = x := ⟨_, rfl⟩
  obtain ⟨xp, hxp⟩ : ∃ x, d[pivot]! = x := ⟨_, rfl⟩
  rw [hxa] at ca
  rw [hxp] at cp
  obtain ⟨y, hy⟩ := cell?_setCell_some (w := w) (p := ⟨blk, off + a, none⟩) (x := .int .u32 xp) (q := ⟨blk, off + pivot, none⟩) (v := .int .u32 xp) cp
  have hsw : Hid (∀ W, SP w blk off d W → SP w blk off (swp d a pivot) ((W.setCell ⟨blk, off + a, none⟩ (.int .u32 xp)).setCell ⟨blk, off + pivot, none⟩ (.int .u32 xa))) := Lib.hid (fun W hW => by
    have := hW.swp (i := a) (j := pivot) (by omega) (by omega)
    rw [hxa, hxp] at this
    exact this)
  have HS := Lib.hid (And.intro (SP.start h) (And.intro hn hb1))
  rw [hn] at hb hd hp ⊢
  have hlt1 : b1 < n := by omega
  have hab1 : a ≤ b1 := by omega
  have hbb : b1 + 1 = b := by omega
  clear h hn hb1 hxa hxp
  have hd1 : (n : Int) ≤ 1048576 := by omega
  have han : (a : Int) < n := by omega
  have hpn : (pivot : Int) < n := by omega
  go_enter Tryz.func96, Tryz.ntmps96
  go_wp2_with fail
  go_region
  all_goals
    go_wp2_with fail
    clear ca fa cp fp hy
    have HW0 : Hid (SP w blk off (swp d a pivot) _) := Lib.hid (by first | exact (hsw.out _ HS.out.1).drew | exact hsw.out _ HS.out.1.drew)
    go_loopw [9, 10] (fun i j wr => ∃ (p q : Nat) (dk : Array Int), i = .int .i64 p ∧ j = .int .i64 q ∧ a < p ∧ p ≤ q + 1 ∧ q < n ∧ dk.size = n ∧ SP w blk off dk wr ∧ partEqLoop ltInt a p q dk = partEqLoop ltInt a (a + 1) b1 (swp d a pivot)) (fun i j _ => (intOf j).toNat + 1 - (intOf i).toNat)
    case atStart => exact ⟨a + 1, b1, swp d a pivot, by first | rfl | go_num, by first | rfl | go_num, by omega, by omega, hlt1, by rw [swp_size]; exact HS.out.2.1, HW0.out, rfl⟩
    case round =>
      obtain ⟨i, j, dk, rfl, rfl, hai, hij, hjn, hdk, hsp, hr⟩ := hrel
      obtain ⟨wo, rfl⟩ : ∃ wo : World, wo = wr := ⟨_, rfl⟩
      have HO := Lib.hid (And.intro hsp hr)
      have HDK := Lib.hid hdk
      obtain ⟨pv, hpv⟩ : ∃ x, dk[a]! = x := ⟨_, rfl⟩
      have HPV := Lib.hid hpv
      clear hsp hr hdk hpv
      go_wp2_with fail
      go_loopw [9] (fun vi wr => ∃ m : Nat, vi = .int .i64 m ∧ i ≤ m ∧ m ≤ j + 1 ∧ SP w blk off dk wr ∧ scanUp (fun x => !ltInt dk[a]! x) dk j m = scanUp (fun x => !ltInt dk[a]! x) dk j i) (fun vi _ => j + 1 - (intOf vi).toNat)
      case atStart => exact ⟨i, by first | rfl | go_num, Nat.le_refl _, by omega, by first | exact HO.out.1 | exact HO.out.1.drewN _, rfl⟩
      case round =>
        obtain ⟨mi, rfl, hImi, hmiJ, hsp, hsc⟩ := hrel
        obtain ⟨wmi, rfl⟩ : ∃ wo : World, wo = wr := ⟨_, rfl⟩
        by_cases hle : mi ≤ j
        · obtain ⟨x, hx⟩ : ∃ x, dk[mi]! = x := ⟨_, rfl⟩
          obtain ⟨ca, fa⟩ := hsp.1 a (by have := HDK.out; omega)
          obtain ⟨cm, fm⟩ := hsp.1 mi (by have := HDK.out; omega)
          rw [HPV.out] at ca
          rw [hx] at cm
          have hleI : (mi : Int) ≤ j := by omega
          have hmn : (mi : Int) < n := by omega
          have han : (a : Int) < n := by omega
          have HMu := Lib.hid (And.intro hsp (And.intro hsc hx))
          clear hsp hsc hx
          cases hl : ltInt pv x with
          | false =>
            have HL := Lib.hid hl
            go_wp2_with fail
            go_quiet ((go_at_call 95; first | exact Calls.quiet_of_same (less_is _ _ _ HL.out _) | exact quietA (less_is _ _ _ HL.out _)))
            go_wp2_with fail
            refine ⟨⟨mi + 1, by first | rfl | go_num, by omega, by omega, HMu.out.1.drewN _, ?_⟩, by simp [intOf]; omega⟩
            rw [← HMu.out.2.1]
            exact (scanUp_go (fun x => !ltInt dk[a]! x) dk j mi hle (by simp [HPV.out, HMu.out.2.2, HL.out])).symm
          | true =>
            have HL := Lib.hid hl
            go_wp2_with fail
            go_quiet ((go_at_call 95; first | exact Calls.quiet_of_same (less_is _ _ _ HL.out _) | exact quietA (less_is _ _ _ HL.out _)))
            go_wp2_with fail
            have HEu : Hid (mi = scanUp (fun x => !ltInt dk[a]! x) dk j i ∧ SP w blk off dk wmi) := Lib.hid ⟨(scanUp_end (fun x => !ltInt dk[a]! x) dk j mi (Or.inr (by simp [HPV.out, HMu.out.2.2, HL.out]))).symm.trans HMu.out.2.1, HMu.out.1⟩
            clear ca fa cm fm hl hleI hmn han hle
            go_loopw [10] (fun vi wr => ∃ m : Nat, vi = .int .i64 m ∧ mi ≤ m + 1 ∧ m ≤ j ∧ SP w blk off dk wr ∧ scanDown (fun x => ltInt dk[a]! x) dk mi m = scanDown (fun x => ltInt dk[a]! x) dk mi j) (fun vi _ => (intOf vi).toNat)
            case atStart => exact ⟨j, by first | rfl | go_num, by omega, Nat.le_refl _, by first | exact HEu.out.2.drewN _ | exact (HEu.out.2.drewN _).drewN _, rfl⟩
            case round =>
              obtain ⟨mj, rfl, hImj, hmjJ, hsp, hsc⟩ := hrel
              obtain ⟨wmj, rfl⟩ : ∃ wo : World, wo = wr := ⟨_, rfl⟩
              by_cases hle : mi ≤ mj
              · obtain ⟨x, hx⟩ : ∃ x, dk[mj]! = x := ⟨_, rfl⟩
                obtain ⟨ca, fa⟩ := hsp.1 a (by have := HDK.out; omega)
                obtain ⟨cm, fm⟩ := hsp.1 mj (by have := HDK.out; omega)
                rw [HPV.out] at ca
                rw [hx] at cm
                have hleI : (mi : Int) ≤ mj := by omega
                have hmn : (mj : Int) < n := by omega
                have han : (a : Int) < n := by omega
                have HMd := Lib.hid (And.intro hsp (And.intro hsc hx))
                clear hsp hsc hx
                cases hl : ltInt pv x with
                | true =>
                  have HL := Lib.hid hl
                  obtain ⟨m1, hm1⟩ : ∃ m1, mj - 1 = m1 := ⟨_, rfl⟩
                  have hm1I : (mj : Int) - 1 = (m1 : Int) := by omega
                  have HM1 := Lib.hid hm1
                  have hm1b : m1 + 1 = mj := by omega
                  have hm1c : mi ≤ m1 + 1 := by omega
                  clear hm1
                  go_wp2_with fail
                  go_quiet ((go_at_call 95; first | exact Calls.quiet_of_same (less_is _ _ _ HL.out _) | exact quietA (less_is _ _ _ HL.out _)))
                  go_wp2_with fail
                  refine ⟨⟨m1, by first | rfl | go_num, by omega, by omega, HMd.out.1.drewN _, ?_⟩, by simp [intOf]; omega⟩
                  rw [← HMd.out.2.1, ← HM1.out]
                  exact (scanDown_go (fun x => ltInt dk[a]! x) dk mi mj hle (by omega) (by simp [HPV.out, HMd.out.2.2, HL.out])).symm
                | false =>
                  have HL := Lib.hid hl
                  have hgtI : decide ((mj : Int) < mi) = false := decide_eq_false (by omega)
                  have hgtN : decide (mj < mi) = false := decide_eq_false (by omega)
                  have hgtP : ¬ (mj : Int) < mi := by omega
                  have hgt : ¬ mj < mi := by omega
                  go_wp2_with fail
                  go_quiet ((go_at_call 95; first | exact Calls.quiet_of_same (less_is _ _ _ HL.out _) | exact quietA (less_is _ _ _ HL.out _)))
                  go_wp2_with fail
                  have HEd : Hid (mj = scanDown (fun x => ltInt dk[a]! x) dk mi j ∧ SP w blk off dk wmj) := Lib.hid ⟨(scanDown_end (fun x => ltInt dk[a]! x) dk mi mj (Or.inr (by simp [HPV.out, HMd.out.2.2, HL.out]))).symm.trans HMd.out.2.1, HMd.out.1⟩
                  clear ca fa cm fm hl hleI hmn han hle
                  have hlt := scans_lt ltInt a i j dk (by omega) HEu.out.1 HEd.out.1 (by omega)
                  have hltI : (mi : Int) < mj := by omega
                  obtain ⟨c0, f0⟩ := HEd.out.2.1 mi (by have := HDK.out; omega)
                  obtain ⟨c1, f1⟩ := HEd.out.2.1 mj (by have := HDK.out; omega)
                  obtain ⟨x0, hx0⟩ : ∃ x, dk[mi]! = x := ⟨_, rfl⟩
                  obtain ⟨x1, hx1⟩ : ∃ x, dk[mj]! = x := ⟨_, rfl⟩
                  rw [hx0] at c0
                  rw [hx1] at c1
                  have HX := Lib.hid (And.intro hx0 hx1)
                  obtain ⟨y, hy⟩ := cell?_setCell_some (w := wmj) (p := ⟨blk, off + mi, none⟩) (x := .int .u32 x1) (q := ⟨blk, off + mj, none⟩) (v := .int .u32 x1) c1
                  obtain ⟨m1, hm1⟩ : ∃ m1, mj - 1 = m1 := ⟨_, rfl⟩
                  have hm1I : (mj : Int) - 1 = (m1 : Int) := by omega
                  have hm1b : m1 + 1 = mj := by omega
                  have HM1 := Lib.hid hm1
                  have hjn : (mj : Int) < n := by omega
                  clear hx0 hx1 hm1
                  go_wp2_with fail
                  go_region
                  all_goals
                    go_wp2_with fail
                    have hs2 := fun W (hW : SP w blk off dk W) => hW.swp (i := mi) (j := mj) (by have := HDK.out; omega) (by have := HDK.out; omega)
                    rw [HX.out.1, HX.out.2] at hs2
                    refine ⟨⟨mi + 1, m1, swp dk mi mj, by first | rfl | go_num, by first | rfl | go_num, by omega, by omega, by omega, by rw [swp_size]; exact HDK.out, by first | exact hs2 _ (HEd.out.2.drewN (nq + 1)) | exact (hs2 _ (HEd.out.2.drewN nq)).drew | exact hs2 _ (HEd.out.2.drewN nq).drew, ?_⟩, by simp [intOf]; omega⟩
                    rw [← HO.out.2, partEq_go ltInt a i j dk HEu.out.1 HEd.out.1 hgt, HM1.out]
              · have hleF : decide ((mi : Int) ≤ mj) = false := decide_eq_false (by omega)
                have hleN : decide (mi ≤ mj) = false := decide_eq_false (by omega)
                have hleP : ¬ (mi : Int) ≤ mj := by omega
                have HEd : Hid (mj = scanDown (fun x => ltInt dk[a]! x) dk mi j ∧ SP w blk off dk wmj) := Lib.hid ⟨(scanDown_end (fun x => ltInt dk[a]! x) dk mi mj (Or.inl hle)).symm.trans hsc, hsp⟩
                clear hsp hsc
                have hgtI : (mj : Int) < mi := by omega
                have hgtN : mj < mi := by omega
                go_wp2_with fail
                go_quiet (fail)
                go_wp2_with fail
                clear hleF hleN hleP hle
                go_ret
                have hr := HO.out.2
                rw [partEq_break ltInt a i j dk HEu.out.1 HEd.out.1 (by omega)] at hr
                unfold partitionEqual
                rw [HS.out.2.2, ← hr]
                exact ⟨rfl, by first | exact HEd.out.2.drewN _ | exact (HEd.out.2.drewN _).drewN _⟩
        · have hleF : decide ((mi : Int) ≤ j) = false := decide_eq_false (by omega)
          have hleN : decide (mi ≤ j) = false := decide_eq_false (by omega)
          have hleP : ¬ (mi : Int) ≤ j := by omega
          have HEu : Hid (mi = scanUp (fun x => !ltInt dk[a]! x) dk j i ∧ SP w blk off dk wmi) := Lib.hid ⟨(scanUp_end (fun x => !ltInt dk[a]! x) dk j mi (Or.inl hle)).symm.trans hsc, hsp⟩
          clear hsp hsc
          go_wp2_with fail
          go_quiet (fail)
          go_wp2_with fail
          clear hleF hleN hleP hle
          go_loopw [10] (fun vi wr => ∃ m : Nat, vi = .int .i64 m ∧ mi ≤ m + 1 ∧ m ≤ j ∧ SP w blk off dk wr ∧ scanDown (fun x => ltInt dk[a]! x) dk mi m = scanDown (fun x => ltInt dk[a]! x) dk mi j) (fun vi _ => (intOf vi).toNat)
          case atStart => exact ⟨j, by first | rfl | go_num, by omega, Nat.le_refl _, by first | exact HEu.out.2.drewN _ | exact (HEu.out.2.drewN _).drewN _, rfl⟩
          case round =>
            obtain ⟨mj, rfl, hImj, hmjJ, hsp, hsc⟩ := hrel
            obtain ⟨wmj, rfl⟩ : ∃ wo : World, wo = wr := ⟨_, rfl⟩
            by_cases hle : mi ≤ mj
            · obtain ⟨x, hx⟩ : ∃ x, dk[mj]! = x := ⟨_, rfl⟩
              obtain ⟨ca, fa⟩ := hsp.1 a (by have := HDK.out; omega)
              obtain ⟨cm, fm⟩ := hsp.1 mj (by have := HDK.out; omega)
              rw [HPV.out] at ca
              rw [hx] at cm
              have hleI : (mi : Int) ≤ mj := by omega
              have hmn : (mj : Int) < n := by omega
              have han : (a : Int) < n := by omega
              have HMd := Lib.hid (And.intro hsp (And.intro hsc hx))
              clear hsp hsc hx
              cases hl : ltInt pv x with
              | true =>
                have HL := Lib.hid hl
                obtain ⟨m1, hm1⟩ : ∃ m1, mj - 1 = m1 := ⟨_, rfl⟩
                have hm1I : (mj : Int) - 1 = (m1 : Int) := by omega
                have HM1 := Lib.hid hm1
                have hm1b : m1 + 1 = mj := by omega
                have hm1c : mi ≤ m1 + 1 := by omega
                clear hm1
                go_wp2_with fail
                go_quiet ((go_at_call 95; first | exact Calls.quiet_of_same (less_is _ _ _ HL.out _) | exact quietA (less_is _ _ _ HL.out _)))
                go_wp2_with fail
                refine ⟨⟨m1, by first | rfl | go_num, by omega, by omega, HMd.out.1.drewN _, ?_⟩, by simp [intOf]; omega⟩
                rw [← HMd.out.2.1, ← HM1.out]
                exact (scanDown_go (fun x => ltInt dk[a]! x) dk mi mj hle (by omega) (by simp [HPV.out, HMd.out.2.2, HL.out])).symm
              | false =>
                have HL := Lib.hid hl
                have hgtI : decide ((mj : Int) < mi) = false := decide_eq_false (by omega)
                have hgtN : decide (mj < mi) = false := decide_eq_false (by omega)
                have hgtP : ¬ (mj : Int) < mi := by omega
                have hgt : ¬ mj < mi := by omega
                go_wp2_with fail
                go_quiet ((go_at_call 95; first | exact Calls.quiet_of_same (less_is _ _ _ HL.out _) | exact quietA (less_is _ _ _ HL.out _)))
                go_wp2_with fail
                have HEd : Hid (mj = scanDown (fun x => ltInt dk[a]! x) dk mi j ∧ SP w blk off dk wmj) := Lib.hid ⟨(scanDown_end (fun x => ltInt dk[a]! x) dk mi mj (Or.inr (by simp [HPV.out, HMd.out.2.2, HL.out]))).symm.trans HMd.out.2.1, HMd.out.1⟩
                clear ca fa cm fm hl hleI hmn han hle
                have hlt := scans_lt ltInt a i j dk (by omega) HEu.out.1 HEd.out.1 (by omega)
                have hltI : (mi : Int) < mj := by omega
                obtain ⟨c0, f0⟩ := HEd.out.2.1 mi (by have := HDK.out; omega)
                obtain ⟨c1, f1⟩ := HEd.out.2.1 mj (by have := HDK.out; omega)
                obtain ⟨x0, hx0⟩ : ∃ x, dk[mi]! = x := ⟨_, rfl⟩
                obtain ⟨x1, hx1⟩ : ∃ x, dk[mj]! = x := ⟨_, rfl⟩
                rw [hx0] at c0
                rw [hx1] at c1
                have HX := Lib.hid (And.intro hx0 hx1)
                obtain ⟨y, hy⟩ := cell?_setCell_some (w := wmj) (p := ⟨blk, off + mi, none⟩) (x := .int .u32 x1) (q := ⟨blk, off + mj, none⟩) (v := .int .u32 x1) c1
                obtain ⟨m1, hm1⟩ : ∃ m1, mj - 1 = m1 := ⟨_, rfl⟩
                have hm1I : (mj : Int) - 1 = (m1 : Int) := by omega
                have hm1b : m1 + 1 = mj := by omega
                have HM1 := Lib.hid hm1
                have hjn : (mj : Int) < n := by omega
                clear hx0 hx1 hm1
                go_wp2_with fail
                go_region
                all_goals
                  go_wp2_with fail
                  have hs2 := fun W (hW : SP w blk off dk W) => hW.swp (i := mi) (j := mj) (by have := HDK.out; omega) (by have := HDK.out; omega)
                  rw [HX.out.1, HX.out.2] at hs2
                  refine ⟨⟨mi + 1, m1, swp dk mi mj, by first | rfl | go_num, by first | rfl | go_num, by omega, by omega, by omega, by rw [swp_size]; exact HDK.out, by first | exact hs2 _ (HEd.out.2.drewN (nq + 1)) | exact (hs2 _ (HEd.out.2.drewN nq)).drew | exact hs2 _ (HEd.out.2.drewN nq).drew, ?_⟩, by simp [intOf]; omega⟩
                  rw [← HO.out.2, partEq_go ltInt a i j dk HEu.out.1 HEd.out.1 hgt, HM1.out]
            · have hleF : decide ((mi : Int) ≤ mj) = false := decide_eq_false (by omega)
              have hleN : decide (mi ≤ mj) = false := decide_eq_false (by omega)
              have hleP : ¬ (mi : Int) ≤ mj := by omega
              have HEd : Hid (mj = scanDown (fun x => ltInt dk[a]! x) dk mi j ∧ SP w blk off dk wmj) := Lib.hid ⟨(scanDown_end (fun x => ltInt dk[a]! x) dk mi mj (Or.inl hle)).symm.trans hsc, hsp⟩
              clear hsp hsc
              have hgtI : (mj : Int) < mi := by omega
              have hgtN : mj < mi := by omega
              go_wp2_with fail
              go_quiet (fail)
              go_wp2_with fail
              clear hleF hleN hleP hle
              go_ret
              have hr := HO.out.2
              rw [partEq_break ltInt a i j dk HEu.out.1 HEd.out.1 (by omega)] at hr
              unfold partitionEqual
              rw [HS.out.2.2, ← hr]
              exact ⟨rfl, by first | exact HEd.out.2.drewN _ | exact (HEd.out.2.drewN _).drewN _⟩
end Go.Proofs.YtpcffnhbodjpbaaGreatDoor
