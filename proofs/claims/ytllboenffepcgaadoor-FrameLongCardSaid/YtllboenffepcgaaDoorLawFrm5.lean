/- The walk of the law FrameLong. -/
import Derived.Deep.RegionHeld3
import Derived.Test.YtllboenffepcgaaDoorLawFrm4
set_option linter.unusedVariables false
set_option linter.unusedSimpArgs false
namespace Go.Proofs.YtllboenffepcgaaDoor
open Go.RowKit

theorem ofL_take (l : List UInt8) (k : Nat) : (ofL l).extract 0 k = ⟨(l.take k).toArray⟩ := by
  apply ByteArray.ext
  rw [ByteArray.data_extract]
  show l.toArray.extract 0 k = (l.take k).toArray
  rw [List.extract_toArray]
  simp
theorem below_after {w w4 : World} {o : Obj} (h : Below (w.alloc o).drew.heap.size (w.alloc o).drew w4) : Below (w.heap.size + 1) (w.alloc o) w4 :=
  (Below.refl _ _).drew.trans (h.mono (by show _ ≤ (w.alloc o).heap.size; rw [World.size_alloc]; exact Nat.le_refl _))
/-- What the walks of FrameLong have at hand: line is X, n bytes c. -/
structure LongAt (w : World) (n : Nat) (c : UInt8) (sX : ByteArray) : Prop where
  dat : sX = ofL (reps n c)
  n1 : 8191 ≤ n
  n2 : n ≤ 8193
  h13 : c ≠ 13
  h125 : c ≠ 125
theorem LongAt.size {w : World} {n : Nat} {c : UInt8} {sX : ByteArray} (h : LongAt w n c sX) : sX.size = n := by rw [h.dat]; show (reps n c).toArray.size = n; rw [List.size_toArray, reps_len]
theorem LongAt.list {w : World} {n : Nat} {c : UInt8} {sX : ByteArray} (h : LongAt w n c sX) : sX.data.toList = reps n c := by rw [h.dat]; rfl

set_option maxRecDepth 100000 in
set_option maxHeartbeats 800000 in
theorem frameLong_out (k cv : Nat) (lit : Bool) (hc : cv < 256) (hx : cv = 13 ∨ cv = 10 ∨ cv = 125) (w : World) (hS : Std w) (hM : StdM w) :
    Calls Tryd.prog 6 #[.int .u8 k, .int .u8 cv, .bool lit] w fun e w' => e = .returned (.bool true) ∧ Below w.heap.size w w' := by
  have HA := Lib.hid (alive05_walk w hS hM)
  clear hS hM hc
  rcases hx with rfl | rfl | rfl
  all_goals
    go_enter Tryd.func6, Tryd.ntmps6
    go_wp2_with fail
    refine HA.out.mono ?_
    rintro e w1 ⟨rfl, hb⟩
    have HB := Lib.hid hb
    clear hb
    go_wp2_with fail
    go_ret
    exact ⟨rfl, HB.out⟩

set_option maxRecDepth 100000 in
set_option maxHeartbeats 3200000 in
theorem frameLong_a (k n : Nat) (r : Int) (hr : (k : Int) % 3 = r) (hn : 8191 + r = (n : Int)) (hk : k < 256) (u : UInt8) (h13 : u ≠ 13) (h10 : u ≠ 10) (h125 : u ≠ 125) (hlong : 8192 < n) (w : World) (hS : Std w) (hM : StdM w) :
    Calls Tryd.prog 6 #[.int .u8 k, .int .u8 (u.toNat : Int), .bool false] w fun e w' => e = .returned (.bool true) ∧ Below w.heap.size w w' := by
  have hr2 : Int.tmod (k : Int) 3 = r := by rw [Int.tmod_eq_emod_of_nonneg (by omega)]; exact hr
  have hr0 : 0 ≤ r := by omega
  have hr3 : r ≤ 2 := by omega
  obtain ⟨sX, hsX⟩ : ∃ sX : ByteArray, ofL (reps n u) = sX := ⟨_, rfl⟩
  have HL : Hid (LongAt w n u sX) := Lib.hid ⟨hsX.symm, by omega, by omega, h13, h125⟩
  have hsz : sX.size = n := HL.out.size
  have HA := Lib.hid (fun W (hb : Below w.heap.size w W) => alive05_walk W (hS.below hb) (hM.below hb))
  have HSS := Lib.hid (fun W (hb : Below w.heap.size w W) => And.intro (hS.below hb) (hM.below hb))
  have HR := Lib.hid (fun W => Tryd.strings_Repeat (ofL [u]) n W (by omega) (by show [u].toArray.size * n ≤ _; rw [List.size_toArray]; simp only [List.length_cons, List.length_nil]; omega))
  have e : (ofL [u]).data.toList = [u] := rfl
  simp only [e, repeat_reps] at HR
  change Hid (∀ W, Calls _ _ _ W fun e w' => e = .returned (.string (ofL (reps n u))) ∧ _) at HR
  rw [hsX] at HR
  have hcv := fun W => conv_one W (u.toNat : Int) u rfl
  have e13 : ((u.toNat : Int) == 13) = false := by rw [beq_eq_false_iff_ne]; intro h; exact h13 (UInt8.toNat_inj.1 (by show _ = 13; omega))
  have e10 : ((u.toNat : Int) == 10) = false := by rw [beq_eq_false_iff_ne]; intro h; exact h10 (UInt8.toNat_inj.1 (by show _ = 10; omega))
  have e125 : ((u.toNat : Int) == 125) = false := by rw [beq_eq_false_iff_ne]; intro h; exact h125 (UInt8.toNat_inj.1 (by show _ = 125; omega))
  have hu0 := u.toNat_lt
  have hrun := (long_run n u HL.out.h13 HL.out.h125)
  rw [if_pos hlong] at hrun
  have HRUN := Lib.hid (And.intro hrun (And.intro hn (And.intro hsz hlong)))
  have hs0 : sX.size ≤ 8193 := by omega
  have t1 : decide ((8192 : Int) < n) = true := decide_eq_true (by omega)
  have t2 : decide (8192 < n) = true := decide_eq_true (by omega)
  have hs1 : 8192 ≤ sX.size := by omega
  generalize hvv : (u.toNat : Int) = v at *
  have hk0 : (k : Int) < 256 := by omega
  have hn0 : (n : Int) ≤ 8193 := by omega
  clear hvv hrun hsX e hS hM h13 h10 h125 hk hlong hu0 hsz
  go_enter Tryd.func6, Tryd.ntmps6
  go_wp2_with fail
  refine (HR.out _).mono ?_
  rintro e w1 ⟨rfl, hb1⟩
  have hb1' := bcall ((Below.refl _ _).alloc (Nat.le_refl _) _) hb1
  obtain ⟨hrun, hn', hsz, hlong⟩ := HRUN.out
  obtain ⟨pv, cv, W2, hc, hb2, hsp⟩ := conv_split (sX ++ ⟨#[13, 10, 122]⟩) (reps n u ++ [13, 10, 122]) (by rw [app_data, HL.out.list]) (n + 3) (by simp only [List.length_append, reps_len, List.length_cons, List.length_nil]) (by omega) w1 (HSS.out _ hb1').1 (HSS.out _ hb1').2 hrun wait_z
  have HC := Lib.hid hc
  have HP := Lib.hid hsp
  have HB := Lib.hid (bcall hb1' hb2)
  clear hrun hn' hsz hc hsp hb1' hb2 hb1 hlong
  go_wp2_with fail
  rw [HC.out]
  simp only [Result.andThen]
  rw [Oper.upon_value]
  go_wp2_with fail
  refine HP.out.mono ?_
  rintro e w3 ⟨v3, rfl, hout, hb3⟩
  obtain ⟨g, o, c2, p1, c1, rfl, h1, h2, h5, h6, hd⟩ := hout.lone
  have hdl : ((reps n u).take 8192).length = 8192 := by have := HRUN.out.2.2.2; rw [List.length_take, reps_len]; omega
  simp only [hdl, List.length_nil] at h6
  have HB3 := Lib.hid (bcall HB.out hb3)
  have HV := Lib.hid (fun W (hb : Below w3.heap.size w3 W) => by
    have h := conv_frm (hd.keep (ok' := fun _ => True) (KeptOn.below hb) (fun _ _ _ => trivial)) c1 (8192) hdl
    rw [show (⟨((reps n u).take 8192).toArray⟩ : ByteArray) = sX.extract 0 8192 from by rw [HL.out.dat, ofL_take]] at h
    exact h)
  clear hb3 hout hd hdl
  go_wp2_with fail
  have HKS : Hid (∀ W, Below (w3.heap.size + 1) (w3.alloc (.cells #[.int .i64 3, .slice p1 8192 c1] 37)) W → W.cell? ⟨w3.heap.size, 0, none⟩ = some (.int .i64 3) ∧ W.cell? ⟨w3.heap.size, 1, none⟩ = some (.slice p1 8192 c1) ∧ (convert 26 9 (.slice p1 8192 c1)).run Tryd.prog W = .ok (.string (sX.extract 0 8192)) W ∧ Below w.heap.size w W) := Lib.hid (fun W hW => by
    obtain ⟨q0, q1, -, -⟩ := blk2 ((Blk.made w3 37 #[.int .i64 3, .slice p1 8192 c1]).below hW (by omega))
    have hb5 := ((Below.refl w3.heap.size w3).alloc (Nat.le_refl _) (.cells #[.int .i64 3, .slice p1 8192 c1] 37)).trans (hW.mono (by omega))
    exact ⟨q0, q1, HV.out W hb5, bcall HB3.out hb5⟩)
  refine wp_region_noPanic ?_
  refine wp_region_held_drew (S := (fun W => W.cell? ⟨w3.heap.size, 0, none⟩ = some (.int .i64 3) ∧ W.cell? ⟨w3.heap.size, 1, none⟩ = some (.slice p1 8192 c1) ∧ (convert 26 9 (.slice p1 8192 c1)).run Tryd.prog W = .ok (.string (sX.extract 0 8192)) W ∧ Below w.heap.size w W)) (by kernel_rfl) ?_ (fun hHeldA => ?_)
  · first | (dsimp only; (first | exact HKS.out _ (Below.refl _ _).drew | exact HKS.out _ (below_after hb4))) | (first | exact HKS.out _ (Below.refl _ _).drew | exact HKS.out _ (below_after hb4))
  refine wpAnyH_ready (rs := [0]) (by kernel_rfl) (by simp) ?_
  refine AllReadyH.cons rfl (fun K hK => ?_) AllReadyH.nil
  try simp only [List.getElem_toArray, List.getElem_cons_zero, List.getElem_cons_succ]
  go_simp
  (first | (go_at_call 8; refine (HA.out _ (by exact (HB3.out.alloc HB3.out.size _).drew)).mono ?_; rintro e w4 ⟨rfl, hb4⟩))
  first | (with_reducible refine hK.out _ _ ?_ (fun hHeldB => ?_)) | (go_wp2_with fail; refine hK.out _ _ ?_ (fun hHeldB => ?_))
  · first | (dsimp only; (first | exact HKS.out _ (Below.refl _ _).drew | exact HKS.out _ (below_after hb4))) | (first | exact HKS.out _ (Below.refl _ _).drew | exact HKS.out _ (below_after hb4))
  clear hK K hHeldA
  try simp only [Act.put, List.setIfInBounds_toArray, List.set_cons_zero, List.set_cons_succ]
  refine wpAnyH_take (i := 1) (v := ?_) rfl (by kernel_rfl) (by kernel_rfl) (by kernel_rfl) (fun _ _ _ h => h) (Or.inl ⟨by rfl, ?_⟩) (by assumption) ?_
  rotate_left
  · intro w hSw
    try dsimp only at hSw
    go_simp
    try with_reducible rfl
  try simp only [List.getElem_toArray, List.getElem_cons_zero, List.getElem_cons_succ, Act.put, List.setIfInBounds_toArray, List.set_cons_zero, List.set_cons_succ]
  refine wpAnyH_take (i := 2) (v := ?_) rfl (by kernel_rfl) (by kernel_rfl) (by kernel_rfl) (fun _ _ _ h => h) (Or.inl ⟨by rfl, ?_⟩) (by assumption) ?_
  rotate_left
  · intro w hSw
    try dsimp only at hSw
    go_simp
    try with_reducible rfl
  try simp only [List.getElem_toArray, List.getElem_cons_zero, List.getElem_cons_succ, Act.put, List.setIfInBounds_toArray, List.set_cons_zero, List.set_cons_succ]
  refine wpAnyH_take (i := 3) (v := ?_) rfl (by kernel_rfl) (by kernel_rfl) (by kernel_rfl) (fun _ _ _ h => h) (Or.inl ⟨by rfl, ?_⟩) (by assumption) ?_
  rotate_left
  · intro w hSw
    try dsimp only at hSw
    go_simp
    try with_reducible rfl
  try simp only [List.getElem_toArray, List.getElem_cons_zero, List.getElem_cons_succ, Act.put, List.setIfInBounds_toArray, List.set_cons_zero, List.set_cons_succ]
  refine wpAnyH_take (i := 4) (v := ?_) rfl (by kernel_rfl) (by kernel_rfl) (by kernel_rfl) (fun _ _ _ h => h) (Or.inl ⟨by rfl, ?_⟩) (by assumption) ?_
  rotate_left
  · intro w hSw
    try dsimp only at hSw
    go_simp
    try with_reducible rfl
  try simp only [List.getElem_toArray, List.getElem_cons_zero, List.getElem_cons_succ, Act.put, List.setIfInBounds_toArray, List.set_cons_zero, List.set_cons_succ]
  refine wpAnyH_take (i := 5) (v := ?_) rfl (by kernel_rfl) (by kernel_rfl) (by kernel_rfl) (fun _ _ _ h => h) (Or.inl ⟨by rfl, ?_⟩) (by assumption) ?_
  rotate_left
  · intro w hSw
    try dsimp only at hSw
    go_simp
    try with_reducible rfl
  try simp only [List.getElem_toArray, List.getElem_cons_zero, List.getElem_cons_succ, Act.put, List.setIfInBounds_toArray, List.set_cons_zero, List.set_cons_succ]
  refine wpAnyH_take (i := 6) (v := ?_) rfl (by kernel_rfl) (by kernel_rfl) (by kernel_rfl) (fun _ _ _ h => h) (Or.inl ⟨by rfl, ?_⟩) (by assumption) ?_
  rotate_left
  · intro w hSw
    try dsimp only at hSw
    go_simp
    try with_reducible rfl
  try simp only [List.getElem_toArray, List.getElem_cons_zero, List.getElem_cons_succ, Act.put, List.setIfInBounds_toArray, List.set_cons_zero, List.set_cons_succ]
  refine wpAnyH_take (i := 7) (v := ?_) rfl (by kernel_rfl) (by kernel_rfl) (by kernel_rfl) (fun _ _ _ h => h) (Or.inl ⟨by rfl, ?_⟩) (by assumption) ?_
  rotate_left
  · intro w hSw
    try dsimp only at hSw
    go_simp
    try with_reducible rfl
  try simp only [List.getElem_toArray, List.getElem_cons_zero, List.getElem_cons_succ, Act.put, List.setIfInBounds_toArray, List.set_cons_zero, List.set_cons_succ]
  refine wpAnyH_take (i := 8) (v := ?_) rfl (by kernel_rfl) (by kernel_rfl) (by kernel_rfl) (fun _ _ _ h => h) (Or.inl ⟨by rfl, ?_⟩) (by assumption) ?_
  rotate_left
  · intro w hSw
    try dsimp only at hSw
    go_simp
    try with_reducible rfl
  try simp only [List.getElem_toArray, List.getElem_cons_zero, List.getElem_cons_succ, Act.put, List.setIfInBounds_toArray, List.set_cons_zero, List.set_cons_succ]
  refine wpAnyH_take (i := 9) (v := ?_) rfl (by kernel_rfl) (by kernel_rfl) (by kernel_rfl) (fun _ _ _ h => h) (Or.inl ⟨by rfl, ?_⟩) (by assumption) ?_
  rotate_left
  · intro w hSw
    try dsimp only at hSw
    go_simp
    try with_reducible rfl
  try simp only [List.getElem_toArray, List.getElem_cons_zero, List.getElem_cons_succ, Act.put, List.setIfInBounds_toArray, List.set_cons_zero, List.set_cons_succ]
  refine wpAnyH_take (i := 10) (v := ?_) rfl (by kernel_rfl) (by kernel_rfl) (by kernel_rfl) (fun _ _ _ h => h) (Or.inl ⟨by rfl, ?_⟩) (by assumption) ?_
  rotate_left
  · intro w hSw
    try dsimp only at hSw
    go_simp
    try with_reducible rfl
  try simp only [List.getElem_toArray, List.getElem_cons_zero, List.getElem_cons_succ, Act.put, List.setIfInBounds_toArray, List.set_cons_zero, List.set_cons_succ]
  refine wpAnyH_ready (rs := [11]) (by kernel_rfl) (by simp) ?_
  refine AllReadyH.cons rfl (fun K hK => ?_) AllReadyH.nil
  try simp only [List.getElem_toArray, List.getElem_cons_zero, List.getElem_cons_succ]
  go_simp
  first | (with_reducible refine hK.out _ _ ?_ (fun hHeldA => ?_)) | (go_wp2_with fail; refine hK.out _ _ ?_ (fun hHeldA => ?_))
  · first | (dsimp only; (first | exact HKS.out _ (Below.refl _ _).drew | exact HKS.out _ (below_after hb4))) | (first | exact HKS.out _ (Below.refl _ _).drew | exact HKS.out _ (below_after hb4))
  clear hK K hHeldB
  try simp only [Act.put, List.setIfInBounds_toArray, List.set_cons_zero, List.set_cons_succ]
  refine wpAnyH_take (i := 12) (v := ?_) rfl (by kernel_rfl) (by kernel_rfl) (by kernel_rfl) (fun _ _ _ h => h) (Or.inl ⟨by rfl, ?_⟩) (by assumption) ?_
  rotate_left
  · intro w hSw
    try dsimp only at hSw
    go_simp
    try with_reducible rfl
  try simp only [List.getElem_toArray, List.getElem_cons_zero, List.getElem_cons_succ, Act.put, List.setIfInBounds_toArray, List.set_cons_zero, List.set_cons_succ]
  refine wpAnyH_take (i := 13) (v := ?_) rfl (by kernel_rfl) (by kernel_rfl) (by kernel_rfl) (fun _ _ _ h => h) (Or.inl ⟨by rfl, ?_⟩) (by assumption) ?_
  rotate_left
  · intro w hSw
    try dsimp only at hSw
    go_simp
    try with_reducible rfl
  try simp only [List.getElem_toArray, List.getElem_cons_zero, List.getElem_cons_succ, Act.put, List.setIfInBounds_toArray, List.set_cons_zero, List.set_cons_succ]
  refine wpAnyH_take (i := 14) (v := ?_) rfl (by kernel_rfl) (by kernel_rfl) (by kernel_rfl) (fun _ _ _ h => h) (Or.inl ⟨by rfl, ?_⟩) (by assumption) ?_
  rotate_left
  · intro w hSw
    try dsimp only at hSw
    go_simp
    try with_reducible rfl
  try simp only [List.getElem_toArray, List.getElem_cons_zero, List.getElem_cons_succ, Act.put, List.setIfInBounds_toArray, List.set_cons_zero, List.set_cons_succ]
  refine wpAnyH_done (by kernel_rfl) ?_ _
  refine NoPanic.normal ?_
  all_goals
    go_wp2_with fail
    go_ret
    exact ⟨rfl, (HKS.out _ (below_after hb4)).2.2.2⟩

set_option maxRecDepth 100000 in
set_option maxHeartbeats 3200000 in
theorem frameLong_b (k n : Nat) (r : Int) (hr : (k : Int) % 3 = r) (hn : 8191 + r = (n : Int)) (hk : k < 256) (u : UInt8) (h13 : u ≠ 13) (h10 : u ≠ 10) (h125 : u ≠ 125) (hlong : ¬ 8192 < n) (w : World) (hS : Std w) (hM : StdM w) :
    Calls Tryd.prog 6 #[.int .u8 k, .int .u8 (u.toNat : Int), .bool false] w fun e w' => e = .returned (.bool true) ∧ Below w.heap.size w w' := by
  have hr2 : Int.tmod (k : Int) 3 = r := by rw [Int.tmod_eq_emod_of_nonneg (by omega)]; exact hr
  have hr0 : 0 ≤ r := by omega
  have hr3 : r ≤ 2 := by omega
  obtain ⟨sX, hsX⟩ : ∃ sX : ByteArray, ofL (reps n u) = sX := ⟨_, rfl⟩
  have HL : Hid (LongAt w n u sX) := Lib.hid ⟨hsX.symm, by omega, by omega, h13, h125⟩
  have hsz : sX.size = n := HL.out.size
  have HA := Lib.hid (fun W (hb : Below w.heap.size w W) => alive05_walk W (hS.below hb) (hM.below hb))
  have HSS := Lib.hid (fun W (hb : Below w.heap.size w W) => And.intro (hS.below hb) (hM.below hb))
  have HR := Lib.hid (fun W => Tryd.strings_Repeat (ofL [u]) n W (by omega) (by show [u].toArray.size * n ≤ _; rw [List.size_toArray]; simp only [List.length_cons, List.length_nil]; omega))
  have e : (ofL [u]).data.toList = [u] := rfl
  simp only [e, repeat_reps] at HR
  change Hid (∀ W, Calls _ _ _ W fun e w' => e = .returned (.string (ofL (reps n u))) ∧ _) at HR
  rw [hsX] at HR
  have hcv := fun W => conv_one W (u.toNat : Int) u rfl
  have e13 : ((u.toNat : Int) == 13) = false := by rw [beq_eq_false_iff_ne]; intro h; exact h13 (UInt8.toNat_inj.1 (by show _ = 13; omega))
  have e10 : ((u.toNat : Int) == 10) = false := by rw [beq_eq_false_iff_ne]; intro h; exact h10 (UInt8.toNat_inj.1 (by show _ = 10; omega))
  have e125 : ((u.toNat : Int) == 125) = false := by rw [beq_eq_false_iff_ne]; intro h; exact h125 (UInt8.toNat_inj.1 (by show _ = 125; omega))
  have hu0 := u.toNat_lt
  have hrun := (long_run n u HL.out.h13 HL.out.h125)
  rw [if_neg hlong] at hrun
  have HRUN := Lib.hid (And.intro hrun (And.intro hn (And.intro hsz hlong)))
  have hs0 : sX.size ≤ 8193 := by omega
  have t1 : decide ((8192 : Int) < n) = false := decide_eq_false (by omega)
  have t2 : decide (8192 < n) = false := decide_eq_false (by omega)
  generalize hvv : (u.toNat : Int) = v at *
  have hk0 : (k : Int) < 256 := by omega
  have hn0 : (n : Int) ≤ 8193 := by omega
  clear hvv hrun hsX e hS hM h13 h10 h125 hk hlong hu0 hsz
  go_enter Tryd.func6, Tryd.ntmps6
  go_wp2_with fail
  refine (HR.out _).mono ?_
  rintro e w1 ⟨rfl, hb1⟩
  have hb1' := bcall ((Below.refl _ _).alloc (Nat.le_refl _) _) hb1
  obtain ⟨hrun, hn', hsz, hlong⟩ := HRUN.out
  obtain ⟨pv, cv, W2, hc, hb2, hsp⟩ := conv_split (sX ++ ⟨#[13, 10, 122]⟩) (reps n u ++ [13, 10, 122]) (by rw [app_data, HL.out.list]) (n + 3) (by simp only [List.length_append, reps_len, List.length_cons, List.length_nil]) (by omega) w1 (HSS.out _ hb1').1 (HSS.out _ hb1').2 hrun wait_z
  have HC := Lib.hid hc
  have HP := Lib.hid hsp
  have HB := Lib.hid (bcall hb1' hb2)
  clear hrun hn' hsz hc hsp hb1' hb2 hb1 hlong
  go_wp2_with fail
  rw [HC.out]
  simp only [Result.andThen]
  rw [Oper.upon_value]
  go_wp2_with fail
  refine HP.out.mono ?_
  rintro e w3 ⟨v3, rfl, hout, hb3⟩
  obtain ⟨g, o, c2, p1, c1, rfl, h1, h2, h5, h6, hd⟩ := hout.lone
  have hdl : (reps n u).length = n := reps_len _ _
  simp only [hdl, List.length_nil] at h6
  have HB3 := Lib.hid (bcall HB.out hb3)
  have HV := Lib.hid (fun W (hb : Below w3.heap.size w3 W) => by
    have h := conv_frm (hd.keep (ok' := fun _ => True) (KeptOn.below hb) (fun _ _ _ => trivial)) c1 (n) hdl
    rw [show (⟨(reps n u).toArray⟩ : ByteArray) = sX from HL.out.dat.symm] at h
    exact h)
  clear hb3 hout hd hdl
  go_wp2_with fail
  refine (HA.out _ (HB3.out.alloc HB3.out.size _)).mono ?_
  rintro e w4 ⟨rfl, hb4⟩
  obtain ⟨q0, q1, -, -⟩ := blk2 ((Blk.made w3 37 #[.int .i64 1, .slice p1 (n) c1]).below hb4 (by rw [World.size_alloc]; omega))
  have hb5 := bcall ((Below.refl w3.heap.size w3).alloc (Nat.le_refl _) _) hb4
  have HV4 := Lib.hid (HV.out w4 hb5)
  have HB4 := Lib.hid (bcall HB3.out hb5)
  clear hb4 hb5
  go_wp2_with fail
  rw [HV4.out]
  simp only [Result.andThen]
  rw [Oper.upon_value]
  go_wp2_with fail
  go_ret
  exact ⟨rfl, HB4.out⟩

set_option maxRecDepth 100000 in
set_option maxHeartbeats 3200000 in
theorem frameLong_c (k n : Nat) (r : Int) (hr : (k : Int) % 3 = r) (hn : 8191 + r = (n : Int)) (hk : k < 256) (u : UInt8) (h13 : u ≠ 13) (h10 : u ≠ 10) (h125 : u ≠ 125) (hlong : 8192 < n) (w : World) (hS : Std w) (hM : StdM w) :
    Calls Tryd.prog 6 #[.int .u8 k, .int .u8 (u.toNat : Int), .bool true] w fun e w' => e = .returned (.bool true) ∧ Below w.heap.size w w' := by
  have hr2 : Int.tmod (k : Int) 3 = r := by rw [Int.tmod_eq_emod_of_nonneg (by omega)]; exact hr
  have hr0 : 0 ≤ r := by omega
  have hr3 : r ≤ 2 := by omega
  obtain ⟨sX, hsX⟩ : ∃ sX : ByteArray, ofL (reps n u) = sX := ⟨_, rfl⟩
  have HL : Hid (LongAt w n u sX) := Lib.hid ⟨hsX.symm, by omega, by omega, h13, h125⟩
  have hsz : sX.size = n := HL.out.size
  have HA := Lib.hid (fun W (hb : Below w.heap.size w W) => alive05_walk W (hS.below hb) (hM.below hb))
  have HSS := Lib.hid (fun W (hb : Below w.heap.size w W) => And.intro (hS.below hb) (hM.below hb))
  have HR := Lib.hid (fun W => Tryd.strings_Repeat (ofL [u]) n W (by omega) (by show [u].toArray.size * n ≤ _; rw [List.size_toArray]; simp only [List.length_cons, List.length_nil]; omega))
  have e : (ofL [u]).data.toList = [u] := rfl
  simp only [e, repeat_reps] at HR
  change Hid (∀ W, Calls _ _ _ W fun e w' => e = .returned (.string (ofL (reps n u))) ∧ _) at HR
  rw [hsX] at HR
  have hcv := fun W => conv_one W (u.toNat : Int) u rfl
  have e13 : ((u.toNat : Int) == 13) = false := by rw [beq_eq_false_iff_ne]; intro h; exact h13 (UInt8.toNat_inj.1 (by show _ = 13; omega))
  have e10 : ((u.toNat : Int) == 10) = false := by rw [beq_eq_false_iff_ne]; intro h; exact h10 (UInt8.toNat_inj.1 (by show _ = 10; omega))
  have e125 : ((u.toNat : Int) == 125) = false := by rw [beq_eq_false_iff_ne]; intro h; exact h125 (UInt8.toNat_inj.1 (by show _ = 125; omega))
  have hu0 := u.toNat_lt
  have hrun := (lit_run n u HL.out.h13 HL.out.h125)
  rw [if_pos hlong] at hrun
  have HRUN := Lib.hid (And.intro hrun (And.intro hn (And.intro hsz hlong)))
  have hs0 : sX.size ≤ 8193 := by omega
  have t1 : decide ((8192 : Int) < n) = true := decide_eq_true (by omega)
  have t2 : decide (8192 < n) = true := decide_eq_true (by omega)
  have hs1 : 8192 ≤ sX.size := by omega
  generalize hvv : (u.toNat : Int) = v at *
  have hk0 : (k : Int) < 256 := by omega
  have hn0 : (n : Int) ≤ 8193 := by omega
  clear hvv hrun hsX e hS hM h13 h10 h125 hk hlong hu0 hsz
  go_enter Tryd.func6, Tryd.ntmps6
  go_wp2_with fail
  refine (HR.out _).mono ?_
  rintro e w1 ⟨rfl, hb1⟩
  have hb1' := bcall ((Below.refl _ _).alloc (Nat.le_refl _) _) hb1
  obtain ⟨hrun, hn', hsz, hlong⟩ := HRUN.out
  obtain ⟨pv, cv, W2, hc, hb2, hsp⟩ := conv_split (⟨#[123, 49, 125, 13, 10, 120]⟩ ++ sX ++ ⟨#[13, 10, 122]⟩) (preL ++ (reps n u ++ [13, 10, 122])) (by rw [app_data, app_data, HL.out.list]; simp [preL]) (n + 9) (by simp only [List.length_append, reps_len, preL, List.length_cons, List.length_nil]; omega) (by omega) w1 (HSS.out _ hb1').1 (HSS.out _ hb1').2 hrun wait_z
  have HC := Lib.hid hc
  have HP := Lib.hid hsp
  have HB := Lib.hid (bcall hb1' hb2)
  clear hrun hn' hsz hc hsp hb1' hb2 hb1 hlong
  go_wp2_with fail
  rw [HC.out]
  simp only [Result.andThen]
  rw [Oper.upon_value]
  go_wp2_with fail
  refine HP.out.mono ?_
  rintro e w3 ⟨v3, rfl, hout, hb3⟩
  obtain ⟨g, o, c2, p0, c0, p1, c1, rfl, h1, h2, h3, h4, h5, h6, -, hd⟩ := hout.two
  have ob : o + 2 + 1 = o + 3 := rfl
  have hdl : ((reps n u).take 8192).length = 8192 := by have := HRUN.out.2.2.2; rw [List.length_take, reps_len]; omega
  simp only [hdl, List.length_nil] at h4 h6
  have HB3 := Lib.hid (bcall HB.out hb3)
  have HV := Lib.hid (fun W (hb : Below w3.heap.size w3 W) => by
    have h := conv_frm (hd.keep (ok' := fun _ => True) (KeptOn.below hb) (fun _ _ _ => trivial)) c1 (8192) hdl
    rw [show (⟨((reps n u).take 8192).toArray⟩ : ByteArray) = sX.extract 0 8192 from by rw [HL.out.dat, ofL_take]] at h
    exact h)
  clear hb3 hout hd hdl
  go_wp2_with fail
  have HKS : Hid (∀ W, Below (w3.heap.size + 1) (w3.alloc (.cells #[.int .i64 3, .slice p1 8192 c1] 37)) W → W.cell? ⟨w3.heap.size, 0, none⟩ = some (.int .i64 3) ∧ W.cell? ⟨w3.heap.size, 1, none⟩ = some (.slice p1 8192 c1) ∧ (convert 26 9 (.slice p1 8192 c1)).run Tryd.prog W = .ok (.string (sX.extract 0 8192)) W ∧ Below w.heap.size w W) := Lib.hid (fun W hW => by
    obtain ⟨q0, q1, -, -⟩ := blk2 ((Blk.made w3 37 #[.int .i64 3, .slice p1 8192 c1]).below hW (by omega))
    have hb5 := ((Below.refl w3.heap.size w3).alloc (Nat.le_refl _) (.cells #[.int .i64 3, .slice p1 8192 c1] 37)).trans (hW.mono (by omega))
    exact ⟨q0, q1, HV.out W hb5, bcall HB3.out hb5⟩)
  refine wp_region_noPanic ?_
  refine wp_region_held_drew (S := (fun W => W.cell? ⟨w3.heap.size, 0, none⟩ = some (.int .i64 3) ∧ W.cell? ⟨w3.heap.size, 1, none⟩ = some (.slice p1 8192 c1) ∧ (convert 26 9 (.slice p1 8192 c1)).run Tryd.prog W = .ok (.string (sX.extract 0 8192)) W ∧ Below w.heap.size w W)) (by kernel_rfl) ?_ (fun hHeldA => ?_)
  · first | (dsimp only; (first | exact HKS.out _ (Below.refl _ _).drew | exact HKS.out _ (below_after hb4))) | (first | exact HKS.out _ (Below.refl _ _).drew | exact HKS.out _ (below_after hb4))
  refine wpAnyH_ready (rs := [0]) (by kernel_rfl) (by simp) ?_
  refine AllReadyH.cons rfl (fun K hK => ?_) AllReadyH.nil
  try simp only [List.getElem_toArray, List.getElem_cons_zero, List.getElem_cons_succ]
  go_simp
  (first | (go_at_call 8; refine (HA.out _ (by exact (HB3.out.alloc HB3.out.size _).drew)).mono ?_; rintro e w4 ⟨rfl, hb4⟩))
  first | (with_reducible refine hK.out _ _ ?_ (fun hHeldB => ?_)) | (go_wp2_with fail; refine hK.out _ _ ?_ (fun hHeldB => ?_))
  · first | (dsimp only; (first | exact HKS.out _ (Below.refl _ _).drew | exact HKS.out _ (below_after hb4))) | (first | exact HKS.out _ (Below.refl _ _).drew | exact HKS.out _ (below_after hb4))
  clear hK K hHeldA
  try simp only [Act.put, List.setIfInBounds_toArray, List.set_cons_zero, List.set_cons_succ]
  refine wpAnyH_take (i := 1) (v := ?_) rfl (by kernel_rfl) (by kernel_rfl) (by kernel_rfl) (fun _ _ _ h => h) (Or.inl ⟨by rfl, ?_⟩) (by assumption) ?_
  rotate_left
  · intro w hSw
    try dsimp only at hSw
    go_simp
    try with_reducible rfl
  try simp only [List.getElem_toArray, List.getElem_cons_zero, List.getElem_cons_succ, Act.put, List.setIfInBounds_toArray, List.set_cons_zero, List.set_cons_succ]
  refine wpAnyH_take (i := 2) (v := ?_) rfl (by kernel_rfl) (by kernel_rfl) (by kernel_rfl) (fun _ _ _ h => h) (Or.inl ⟨by rfl, ?_⟩) (by assumption) ?_
  rotate_left
  · intro w hSw
    try dsimp only at hSw
    go_simp
    try with_reducible rfl
  try simp only [List.getElem_toArray, List.getElem_cons_zero, List.getElem_cons_succ, Act.put, List.setIfInBounds_toArray, List.set_cons_zero, List.set_cons_succ]
  refine wpAnyH_take (i := 3) (v := ?_) rfl (by kernel_rfl) (by kernel_rfl) (by kernel_rfl) (fun _ _ _ h => h) (Or.inl ⟨by rfl, ?_⟩) (by assumption) ?_
  rotate_left
  · intro w hSw
    try dsimp only at hSw
    go_simp
    try with_reducible rfl
  try simp only [List.getElem_toArray, List.getElem_cons_zero, List.getElem_cons_succ, Act.put, List.setIfInBounds_toArray, List.set_cons_zero, List.set_cons_succ]
  refine wpAnyH_take (i := 4) (v := ?_) rfl (by kernel_rfl) (by kernel_rfl) (by kernel_rfl) (fun _ _ _ h => h) (Or.inl ⟨by rfl, ?_⟩) (by assumption) ?_
  rotate_left
  · intro w hSw
    try dsimp only at hSw
    go_simp
    try with_reducible rfl
  try simp only [List.getElem_toArray, List.getElem_cons_zero, List.getElem_cons_succ, Act.put, List.setIfInBounds_toArray, List.set_cons_zero, List.set_cons_succ]
  refine wpAnyH_take (i := 5) (v := ?_) rfl (by kernel_rfl) (by kernel_rfl) (by kernel_rfl) (fun _ _ _ h => h) (Or.inl ⟨by rfl, ?_⟩) (by assumption) ?_
  rotate_left
  · intro w hSw
    try dsimp only at hSw
    go_simp
    try with_reducible rfl
  try simp only [List.getElem_toArray, List.getElem_cons_zero, List.getElem_cons_succ, Act.put, List.setIfInBounds_toArray, List.set_cons_zero, List.set_cons_succ]
  refine wpAnyH_take (i := 6) (v := ?_) rfl (by kernel_rfl) (by kernel_rfl) (by kernel_rfl) (fun _ _ _ h => h) (Or.inl ⟨by rfl, ?_⟩) (by assumption) ?_
  rotate_left
  · intro w hSw
    try dsimp only at hSw
    go_simp
    try with_reducible rfl
  try simp only [List.getElem_toArray, List.getElem_cons_zero, List.getElem_cons_succ, Act.put, List.setIfInBounds_toArray, List.set_cons_zero, List.set_cons_succ]
  refine wpAnyH_take (i := 7) (v := ?_) rfl (by kernel_rfl) (by kernel_rfl) (by kernel_rfl) (fun _ _ _ h => h) (Or.inl ⟨by rfl, ?_⟩) (by assumption) ?_
  rotate_left
  · intro w hSw
    try dsimp only at hSw
    go_simp
    try with_reducible rfl
  try simp only [List.getElem_toArray, List.getElem_cons_zero, List.getElem_cons_succ, Act.put, List.setIfInBounds_toArray, List.set_cons_zero, List.set_cons_succ]
  refine wpAnyH_take (i := 8) (v := ?_) rfl (by kernel_rfl) (by kernel_rfl) (by kernel_rfl) (fun _ _ _ h => h) (Or.inl ⟨by rfl, ?_⟩) (by assumption) ?_
  rotate_left
  · intro w hSw
    try dsimp only at hSw
    go_simp
    try with_reducible rfl
  try simp only [List.getElem_toArray, List.getElem_cons_zero, List.getElem_cons_succ, Act.put, List.setIfInBounds_toArray, List.set_cons_zero, List.set_cons_succ]
  refine wpAnyH_take (i := 9) (v := ?_) rfl (by kernel_rfl) (by kernel_rfl) (by kernel_rfl) (fun _ _ _ h => h) (Or.inl ⟨by rfl, ?_⟩) (by assumption) ?_
  rotate_left
  · intro w hSw
    try dsimp only at hSw
    go_simp
    try with_reducible rfl
  try simp only [List.getElem_toArray, List.getElem_cons_zero, List.getElem_cons_succ, Act.put, List.setIfInBounds_toArray, List.set_cons_zero, List.set_cons_succ]
  refine wpAnyH_take (i := 10) (v := ?_) rfl (by kernel_rfl) (by kernel_rfl) (by kernel_rfl) (fun _ _ _ h => h) (Or.inl ⟨by rfl, ?_⟩) (by assumption) ?_
  rotate_left
  · intro w hSw
    try dsimp only at hSw
    go_simp
    try with_reducible rfl
  try simp only [List.getElem_toArray, List.getElem_cons_zero, List.getElem_cons_succ, Act.put, List.setIfInBounds_toArray, List.set_cons_zero, List.set_cons_succ]
  refine wpAnyH_ready (rs := [11]) (by kernel_rfl) (by simp) ?_
  refine AllReadyH.cons rfl (fun K hK => ?_) AllReadyH.nil
  try simp only [List.getElem_toArray, List.getElem_cons_zero, List.getElem_cons_succ]
  go_simp
  first | (with_reducible refine hK.out _ _ ?_ (fun hHeldA => ?_)) | (go_wp2_with fail; refine hK.out _ _ ?_ (fun hHeldA => ?_))
  · first | (dsimp only; (first | exact HKS.out _ (Below.refl _ _).drew | exact HKS.out _ (below_after hb4))) | (first | exact HKS.out _ (Below.refl _ _).drew | exact HKS.out _ (below_after hb4))
  clear hK K hHeldB
  try simp only [Act.put, List.setIfInBounds_toArray, List.set_cons_zero, List.set_cons_succ]
  refine wpAnyH_take (i := 12) (v := ?_) rfl (by kernel_rfl) (by kernel_rfl) (by kernel_rfl) (fun _ _ _ h => h) (Or.inl ⟨by rfl, ?_⟩) (by assumption) ?_
  rotate_left
  · intro w hSw
    try dsimp only at hSw
    go_simp
    try with_reducible rfl
  try simp only [List.getElem_toArray, List.getElem_cons_zero, List.getElem_cons_succ, Act.put, List.setIfInBounds_toArray, List.set_cons_zero, List.set_cons_succ]
  refine wpAnyH_take (i := 13) (v := ?_) rfl (by kernel_rfl) (by kernel_rfl) (by kernel_rfl) (fun _ _ _ h => h) (Or.inl ⟨by rfl, ?_⟩) (by assumption) ?_
  rotate_left
  · intro w hSw
    try dsimp only at hSw
    go_simp
    try with_reducible rfl
  try simp only [List.getElem_toArray, List.getElem_cons_zero, List.getElem_cons_succ, Act.put, List.setIfInBounds_toArray, List.set_cons_zero, List.set_cons_succ]
  refine wpAnyH_take (i := 14) (v := ?_) rfl (by kernel_rfl) (by kernel_rfl) (by kernel_rfl) (fun _ _ _ h => h) (Or.inl ⟨by rfl, ?_⟩) (by assumption) ?_
  rotate_left
  · intro w hSw
    try dsimp only at hSw
    go_simp
    try with_reducible rfl
  try simp only [List.getElem_toArray, List.getElem_cons_zero, List.getElem_cons_succ, Act.put, List.setIfInBounds_toArray, List.set_cons_zero, List.set_cons_succ]
  refine wpAnyH_done (by kernel_rfl) ?_ _
  refine NoPanic.normal ?_
  all_goals
    go_wp2_with fail
    go_ret
    exact ⟨rfl, (HKS.out _ (below_after hb4)).2.2.2⟩

set_option maxRecDepth 100000 in
set_option maxHeartbeats 3200000 in
theorem frameLong_d (k n : Nat) (r : Int) (hr : (k : Int) % 3 = r) (hn : 8191 + r = (n : Int)) (hk : k < 256) (u : UInt8) (h13 : u ≠ 13) (h10 : u ≠ 10) (h125 : u ≠ 125) (hlong : ¬ 8192 < n) (w : World) (hS : Std w) (hM : StdM w) :
    Calls Tryd.prog 6 #[.int .u8 k, .int .u8 (u.toNat : Int), .bool true] w fun e w' => e = .returned (.bool true) ∧ Below w.heap.size w w' := by
  have hr2 : Int.tmod (k : Int) 3 = r := by rw [Int.tmod_eq_emod_of_nonneg (by omega)]; exact hr
  have hr0 : 0 ≤ r := by omega
  have hr3 : r ≤ 2 := by omega
  obtain ⟨sX, hsX⟩ : ∃ sX : ByteArray, ofL (reps n u) = sX := ⟨_, rfl⟩
  have HL : Hid (LongAt w n u sX) := Lib.hid ⟨hsX.symm, by omega, by omega, h13, h125⟩
  have hsz : sX.size = n := HL.out.size
  have HA := Lib.hid (fun W (hb : Below w.heap.size w W) => alive05_walk W (hS.below hb) (hM.below hb))
  have HSS := Lib.hid (fun W (hb : Below w.heap.size w W) => And.intro (hS.below hb) (hM.below hb))
  have HR := Lib.hid (fun W => Tryd.strings_Repeat (ofL [u]) n W (by omega) (by show [u].toArray.size * n ≤ _; rw [List.size_toArray]; simp only [List.length_cons, List.length_nil]; omega))
  have e : (ofL [u]).data.toList = [u] := rfl
  simp only [e, repeat_reps] at HR
  change Hid (∀ W, Calls _ _ _ W fun e w' => e = .returned (.string (ofL (reps n u))) ∧ _) at HR
  rw [hsX] at HR
  have hcv := fun W => conv_one W (u.toNat : Int) u rfl
  have e13 : ((u.toNat : Int) == 13) = false := by rw [beq_eq_false_iff_ne]; intro h; exact h13 (UInt8.toNat_inj.1 (by show _ = 13; omega))
  have e10 : ((u.toNat : Int) == 10) = false := by rw [beq_eq_false_iff_ne]; intro h; exact h10 (UInt8.toNat_inj.1 (by show _ = 10; omega))
  have e125 : ((u.toNat : Int) == 125) = false := by rw [beq_eq_false_iff_ne]; intro h; exact h125 (UInt8.toNat_inj.1 (by show _ = 125; omega))
  have hu0 := u.toNat_lt
  have hrun := (lit_run n u HL.out.h13 HL.out.h125)
  rw [if_neg hlong] at hrun
  have HRUN := Lib.hid (And.intro hrun (And.intro hn (And.intro hsz hlong)))
  have hs0 : sX.size ≤ 8193 := by omega
  have t1 : decide ((8192 : Int) < n) = false := decide_eq_false (by omega)
  have t2 : decide (8192 < n) = false := decide_eq_false (by omega)
  generalize hvv : (u.toNat : Int) = v at *
  have hk0 : (k : Int) < 256 := by omega
  have hn0 : (n : Int) ≤ 8193 := by omega
  clear hvv hrun hsX e hS hM h13 h10 h125 hk hlong hu0 hsz
  go_enter Tryd.func6, Tryd.ntmps6
  go_wp2_with fail
  refine (HR.out _).mono ?_
  rintro e w1 ⟨rfl, hb1⟩
  have hb1' := bcall ((Below.refl _ _).alloc (Nat.le_refl _) _) hb1
  obtain ⟨hrun, hn', hsz, hlong⟩ := HRUN.out
  obtain ⟨pv, cv, W2, hc, hb2, hsp⟩ := conv_split (⟨#[123, 49, 125, 13, 10, 120]⟩ ++ sX ++ ⟨#[13, 10, 122]⟩) (preL ++ (reps n u ++ [13, 10, 122])) (by rw [app_data, app_data, HL.out.list]; simp [preL]) (n + 9) (by simp only [List.length_append, reps_len, preL, List.length_cons, List.length_nil]; omega) (by omega) w1 (HSS.out _ hb1').1 (HSS.out _ hb1').2 hrun wait_z
  have HC := Lib.hid hc
  have HP := Lib.hid hsp
  have HB := Lib.hid (bcall hb1' hb2)
  clear hrun hn' hsz hc hsp hb1' hb2 hb1 hlong
  go_wp2_with fail
  rw [HC.out]
  simp only [Result.andThen]
  rw [Oper.upon_value]
  go_wp2_with fail
  refine HP.out.mono ?_
  rintro e w3 ⟨v3, rfl, hout, hb3⟩
  obtain ⟨g, o, c2, p0, c0, p1, c1, rfl, h1, h2, h3, h4, h5, h6, -, hd⟩ := hout.two
  have ob : o + 2 + 1 = o + 3 := rfl
  have hdl : (preL ++ reps n u).length = n + 6 := by simp only [List.length_append, reps_len, preL, List.length_cons, List.length_nil]; omega
  simp only [hdl, List.length_nil] at h4 h6
  have HB3 := Lib.hid (bcall HB.out hb3)
  have HV := Lib.hid (fun W (hb : Below w3.heap.size w3 W) => by
    have h := conv_frm (hd.keep (ok' := fun _ => True) (KeptOn.below hb) (fun _ _ _ => trivial)) c1 (n + 6) hdl
    rw [show (⟨(preL ++ reps n u).toArray⟩ : ByteArray) = ⟨#[123, 49, 125, 13, 10, 120]⟩ ++ sX from by apply ByteArray.ext; rw [HL.out.dat, ByteArray.data_append]; simp [preL, ofL]] at h
    exact h)
  clear hb3 hout hd hdl
  go_wp2_with fail
  refine (HA.out _ (HB3.out.alloc HB3.out.size _)).mono ?_
  rintro e w4 ⟨rfl, hb4⟩
  obtain ⟨q0, q1, -, -⟩ := blk2 ((Blk.made w3 37 #[.int .i64 1, .slice p1 (n + 6) c1]).below hb4 (by rw [World.size_alloc]; omega))
  have hb5 := bcall ((Below.refl w3.heap.size w3).alloc (Nat.le_refl _) _) hb4
  have HV4 := Lib.hid (HV.out w4 hb5)
  have HB4 := Lib.hid (bcall HB3.out hb5)
  clear hb4 hb5
  go_wp2_with fail
  rw [HV4.out]
  simp only [Result.andThen]
  rw [Oper.upon_value]
  go_wp2_with fail
  go_ret
  exact ⟨rfl, HB4.out⟩

theorem frameLong_walk (k cv : Nat) (lit : Bool) (w : World) (hk : k < 256) (hc : cv < 256) (hS : Std w) (hM : StdM w) :
    Calls Tryd.prog 6 #[.int .u8 k, .int .u8 cv, .bool lit] w fun e w' => e = .returned (.bool true) ∧ Below w.heap.size w w' := by
  by_cases hx : cv = 13 ∨ cv = 10 ∨ cv = 125
  · exact frameLong_out k cv lit hc hx w hS hM
  · obtain ⟨u, rfl⟩ : ∃ u : UInt8, u.toNat = cv := ⟨UInt8.ofNat cv, by rw [UInt8.toNat_ofNat']; omega⟩
    have h13 : u ≠ 13 := fun e => hx (.inl (by rw [e]; rfl))
    have h10 : u ≠ 10 := fun e => hx (.inr (.inl (by rw [e]; rfl)))
    have h125 : u ≠ 125 := fun e => hx (.inr (.inr (by rw [e]; rfl)))
    have hn : 8191 + (k : Int) % 3 = ((8191 + k % 3 : Nat) : Int) := by omega
    by_cases hl : 8192 < 8191 + k % 3
    · cases lit
      · exact frameLong_a k _ _ rfl hn hk u h13 h10 h125 hl w hS hM
      · exact frameLong_c k _ _ rfl hn hk u h13 h10 h125 hl w hS hM
    · cases lit
      · exact frameLong_b k _ _ rfl hn hk u h13 h10 h125 hl w hS hM
      · exact frameLong_d k _ _ rfl hn hk u h13 h10 h125 hl w hS hM
end Go.Proofs.YtllboenffepcgaaDoor
