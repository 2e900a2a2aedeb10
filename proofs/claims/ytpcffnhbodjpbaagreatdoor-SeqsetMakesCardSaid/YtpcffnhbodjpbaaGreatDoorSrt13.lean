/- slices.Sort at unsigned numbers. -/
import Derived.Test.YtpcffnhbodjpbaaGreatDoorSrt12
set_option linter.unusedVariables false
set_option linter.unusedSimpArgs false
namespace Go.Proofs.YtpcffnhbodjpbaaGreatDoor
open Go.RowKit Go.Sort Go.Lib

theorem sort_zs (zs : List Int) : Sort.sort ltInt zs.toArray = (zs.mergeSort fun x y => decide (x ≤ y)).toArray := by
  rw [← sortInt zs]
set_option maxHeartbeats 1000000 in
set_option maxRecDepth 100000 in
theorem sort_u32 (blk off cap : Nat) (zs : List Int) (w : World) (h : Holds (Value.int .u32) w blk off zs.toArray) (hbk : blk < w.heap.size) (hn : zs.length ≤ 1048576) (hcap : zs.length ≤ cap) :
    Calls Tryz.prog 53 #[.slice (some ⟨blk, off, none⟩) zs.length cap] w fun e w' => e = .returned (.tuple #[]) ∧ SP w blk off (zs.mergeSort fun x y => decide (x ≤ y)).toArray w' := by
  obtain ⟨n, hz⟩ : ∃ n, zs.length = n := ⟨_, rfl⟩
  have hk : bitsLen n ≤ 62 := (bitsLen_le_iff n 62).2 (by omega)
  have HC := Lib.hid (pdq_u32 blk off cap n (by omega) (by omega) (n + 1) 0 n (bitsLen n) zs.toArray w (by omega) (by simpa using hz) h hbk (Nat.zero_le _) (Nat.le_refl _) (by omega) (Or.inl rfl))
  rw [show pdq ltInt zs.toArray 0 n (bitsLen n) true true = Sort.sort ltInt zs.toArray by unfold Sort.sort; simp [hz], sort_zs] at HC
  have hLen : ∀ w, Calls Tryz.prog 64 #[.int .u64 (n : Int)] w fun e w' => e = .returned (.int .i64 (bitsLen n : Nat)) ∧ w' = w := fun w => by
    have h := Tryz.bits_Len (n : Int) w (by omega) (by omega)
    rwa [Int.toNat_natCast, bitLen_eq _ (by omega)] at h
  have wr : IntKind.u64.wrap (n : Int) = n := by simp [IntKind.wrap, IntKind.bits, IntKind.signed]; omega
  rw [hz] at hn hcap ⊢
  clear h hz hbk
  go_enter Tryz.func53, Tryz.ntmps53
  go_wp2_with (first
    | (go_at_call 64; refine (hLen _).mono ?_; rintro e w' ⟨rfl, rfl⟩)
    | (go_at_call 66; refine HC.out.mono ?_; rintro e w' ⟨⟨v, rfl⟩, hsp⟩))
  go_end0
  exact ⟨rfl, hsp⟩
set_option maxRecDepth 100000 in
theorem ins_none (p : Option Addr) (cap : Nat) (w : World) :
    Calls Tryz.prog 89 #[.slice p 0 cap, .int .i64 0, .int .i64 0] w fun e w' => e = .returned (.tuple #[]) ∧ w' = w := by
  go_enter Tryz.func89, Tryz.ntmps89
  go_wp2
  refine wp_loop_rounds 1 ?_
  rw [rounds_succ]
  go_wp2
  go_end0
  exact ⟨rfl, rfl⟩
set_option maxRecDepth 100000 in
theorem pdq_none (p : Option Addr) (cap : Nat) (w : World) :
    Calls Tryz.prog 66 #[.slice p 0 cap, .int .i64 0, .int .i64 0, .int .i64 0] w fun e w' => e = .returned (.tuple #[]) ∧ w' = w := by
  go_enter Tryz.func66, Tryz.ntmps66
  go_wp2
  refine wp_loop_rounds 1 ?_
  rw [rounds_succ]
  go_wp2_with (first | (go_at_call 89; refine (ins_none p cap _).mono ?_; rintro e w' ⟨rfl, rfl⟩))
  refine bodyPost_ret (results_none rfl _ _ _) rfl ?_
  exact ⟨rfl, rfl⟩
set_option maxRecDepth 100000 in
theorem sort_none (p : Option Addr) (cap : Nat) (w : World) :
    Calls Tryz.prog 53 #[.slice p 0 cap] w fun e w' => e = .returned (.tuple #[]) ∧ w' = w := by
  have hLen : ∀ w, Calls Tryz.prog 64 #[.int .u64 0] w fun e w' => e = .returned (.int .i64 0) ∧ w' = w := fun w => Tryz.bits_Len 0 w (by omega) (by omega)
  go_enter Tryz.func53, Tryz.ntmps53
  go_wp2_with (first
    | (go_at_call 64; refine (hLen _).mono ?_; rintro e w' ⟨rfl, rfl⟩)
    | (go_at_call 66; refine (pdq_none p cap _).mono ?_; rintro e w' ⟨rfl, rfl⟩))
  go_end0
  exact ⟨rfl, rfl⟩
end Go.Proofs.YtpcffnhbodjpbaaGreatDoor
