/- The walk of slices.Equal over bytes. -/
import Derived.Test.YthoccgkkgnlbpaaDoorAlv
namespace Go.Proofs.YthoccgkkgnlbpaaDoor
open Go.RowKit

theorem take_ne {l m : List UInt8} {k : Nat} (h1 : k < l.length) (h2 : k < m.length) (h : l[k] ≠ m[k]) : l ≠ m := by
  rintro rfl; exact h rfl
theorem take_all {l m : List UInt8} (hlm : l.length = m.length) {k : Nat} (hk : l.length ≤ k) (h : l.take k = m.take k) : l = m := by
  rwa [List.take_of_length_le hk, List.take_of_length_le (by omega)] at h
theorem take_next {l m : List UInt8} {k : Nat} (h1 : k < l.length) (h2 : k < m.length) (h : l.take k = m.take k) (e : l[k] = m[k]) : l.take (k + 1) = m.take (k + 1) := by
  rw [List.take_succ_eq_append_getElem h1, List.take_succ_eq_append_getElem h2, h, e]

set_option maxRecDepth 100000 in
set_option maxHeartbeats 800000 in
theorem equal_any (p q : Option Addr) (cap cap' : Nat) (l m : List UInt8) (w : World) (B B' : Nat) (h : Bys w B p l) (h' : Bys w B' q m) (hl : l.length ≤ 1048576) (hm : m.length ≤ 1048576) :
    Calls Tryd.prog 14 #[.slice p l.length cap, .slice q m.length cap'] w fun e w' => e = .returned (.bool (decide (l = m))) ∧ Below w.heap.size w w' := by
  by_cases hlm : l.length = m.length
  · have HC := Lib.hid (fun k (hk : k < l.length) => And.intro (h.at (by omega)) (h'.at (by omega)))
    obtain ⟨n, hn⟩ : ∃ n, n = l.length := ⟨_, rfl⟩
    have hn' : n = m.length := by omega
    rw [← hn, ← hn']
    have HN := Lib.hid hn
    have HM := Lib.hid hn'
    have hnb : n ≤ 1048576 := by omega
    clear h h' hl hm hlm hn hn'
    go_enter Tryd.func14, Tryd.ntmps14
    go_wp2_with fail
    go_loopw [13] (fun i wr => ∃ k : Nat, k ≤ n ∧ i = .int .i64 (k : Int) ∧ (∃ j, wr = w.drewN j) ∧ l.take k = m.take k) (fun i _ => n - (intOf i).toNat)
    case atStart => exact ⟨0, Nat.zero_le _, rfl, ⟨0, rfl⟩, rfl⟩
    case round =>
      obtain ⟨k, hk, rfl, ⟨j, rfl⟩, ha⟩ := hrel
      have A := Lib.hid ha
      clear ha
      by_cases hlt : k < n
      · have hk1 : k < l.length := by have := HN.out; omega
        have hk2 : k < m.length := by have := HM.out; omega
        obtain ⟨⟨b, o, rfl, _, c1⟩, ⟨b', o', rfl, _, c2⟩⟩ := HC.out k hk1
        have d1 : w.cell? ⟨b, o + k, none⟩ = some (.int .u8 (l[k].toNat : Int)) := c1 k hk1
        have d2 : w.cell? ⟨b', o' + k, none⟩ = some (.int .u8 (m[k].toNat : Int)) := c2 k hk2
        have hi0 : (0 : Int) ≤ k := by omega
        have hi1 : (k : Int) < n := by omega
        clear c1 c2
        by_cases he : l[k] = m[k]
        · have R := Lib.hid (take_next hk1 hk2 A.out he)
          have e1 : ((l[k].toNat : Int) != (m[k].toNat : Int)) = false := by rw [he, bne_self_eq_false]
          generalize (l[k].toNat : Int) = x at d1 e1
          generalize (m[k].toNat : Int) = y at d2 e1
          clear he hk1 hk2
          go_wp2_with fail
          go_quiet (fail)
          go_wp2_with fail
          go_roundw
          case rel => exact ⟨k + 1, by omega, by go_num, ⟨j + nq, rfl⟩, R.out⟩
          case measure => simp [intOf]; omega
        · have R := Lib.hid (decide_eq_false (take_ne hk1 hk2 he))
          have e1 : ((l[k].toNat : Int) != (m[k].toNat : Int)) = true := by
            rw [bne_iff_ne]; intro e; exact he (UInt8.toNat_inj.1 (by omega))
          generalize (l[k].toNat : Int) = x at d1 e1
          generalize (m[k].toNat : Int) = y at d2 e1
          clear he hk1 hk2
          go_wp2_with fail
          go_quiet (fail)
          go_wp2_with fail
          go_ret
          exact ⟨by rw [R.out]; rfl, YthoccgkkgnlbpaaDoor.Below.many (YthoccgkkgnlbpaaDoor.Below.many (Below.refl _ _) j) nq⟩
      · have R := Lib.hid (decide_eq_true (take_all (by rw [← HN.out, ← HM.out]) (by rw [← HN.out]; omega) A.out))
        go_wp2_with fail
        go_ret
        exact ⟨by rw [R.out]; rfl, YthoccgkkgnlbpaaDoor.Below.many (Below.refl _ _) _⟩
  · have e1 : ((l.length : Int) != (m.length : Int)) = true := by rw [bne_iff_ne]; omega
    have e2 : decide (l = m) = false := decide_eq_false (fun e => hlm (by rw [e]))
    rw [e2]
    generalize l.length = n at *
    generalize m.length = n' at *
    clear h h' e2 hlm
    go_enter Tryd.func14, Tryd.ntmps14
    go_wp2_with fail
    go_ret
    exact ⟨rfl, Below.refl _ _⟩
end Go.Proofs.YthoccgkkgnlbpaaDoor
