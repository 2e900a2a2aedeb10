/- The walk of slices.Index and slices.Contains over bytes, where the byte does not occur. -/
import Derived.Test.YtgdhakkfddmkjaaDoorJ0
set_option linter.unusedVariables false
set_option linter.unusedSimpArgs false
namespace Go.Proofs.YtgdhakkfddmkjaaDoor
open Go.RowKit

set_option maxRecDepth 100000 in
set_option maxHeartbeats 800000 in
theorem index_none (p : Option Addr) (cap : Nat) (l : List UInt8) (v : Int) (w : World) (B : Nat) (h : Bys w B p l) (hl : l.length ≤ 1048576) (hv : ∀ b ∈ l, (b.toNat : Int) ≠ v) :
    Calls Tryd.prog 34 #[.slice p l.length cap, .int .u8 v] w fun e w' => e = .returned (.int .i64 (-1)) ∧ ∃ j, w' = w.drewN j := by
  have HC := Lib.hid (fun k (hk : k < l.length) => And.intro (h.at (by omega)) (hv l[k] (List.getElem_mem hk)))
  obtain ⟨n, hn⟩ : ∃ n, n = l.length := ⟨_, rfl⟩
  rw [← hn]
  have HN := Lib.hid hn
  have hnb : n ≤ 1048576 := by omega
  clear h hl hv hn
  go_enter Tryd.func34, Tryd.ntmps34
  go_wp2_with fail
  go_loopw [8] (fun i wr => ∃ k : Nat, k ≤ n ∧ i = .int .i64 (k : Int) ∧ (∃ j, wr = w.drewN j)) (fun i _ => n - (intOf i).toNat)
  case atStart => exact ⟨0, Nat.zero_le _, rfl, ⟨0, rfl⟩⟩
  case round =>
    obtain ⟨k, hk, rfl, ⟨j, rfl⟩⟩ := hrel
    by_cases hlt : k < n
    · have hk1 : k < l.length := by have := HN.out; omega
      obtain ⟨⟨b, o, rfl, _, c1⟩, hne⟩ := HC.out k hk1
      have d1 : w.cell? ⟨b, o + k, none⟩ = some (.int .u8 (l[k].toNat : Int)) := c1 k hk1
      have hi0 : (0 : Int) ≤ k := by omega
      have hi1 : (k : Int) < n := by omega
      have e1 : (v == (l[k].toNat : Int)) = false := by rw [beq_eq_false_iff_ne]; exact fun e => hne e.symm
      clear c1 hne
      generalize (l[k].toNat : Int) = x at d1 e1
      clear hk1
      go_wp2_with fail
      exact ⟨⟨k + 1, by omega, by go_num, ⟨j, rfl⟩⟩, by simp [intOf]; omega⟩
    · go_wp2_with fail
      go_ret
      exact ⟨rfl, ⟨j, rfl⟩⟩

set_option maxRecDepth 100000 in
set_option maxHeartbeats 800000 in
theorem contains_none (p : Option Addr) (cap : Nat) (l : List UInt8) (v : Int) (w : World) (B : Nat) (h : Bys w B p l) (hl : l.length ≤ 1048576) (hv : ∀ b ∈ l, (b.toNat : Int) ≠ v) :
    Calls Tryd.prog 22 #[.slice p l.length cap, .int .u8 v] w fun e w' => e = .returned (.bool false) ∧ ∃ j, w' = w.drewN j := by
  have HI := Lib.hid (index_none p cap l v w B h hl hv)
  clear h hl hv
  generalize l.length = n at *
  go_enter Tryd.func22, Tryd.ntmps22
  go_wp2_with fail
  refine HI.out.mono ?_
  rintro e w1 ⟨rfl, j, rfl⟩
  go_wp2_with fail
  go_ret
  exact ⟨rfl, ⟨j, rfl⟩⟩
end Go.Proofs.YtgdhakkfddmkjaaDoor
