/- The walk of the reference's end. · The walk of the example of chapter 04. · The walk of slices.Equal over bytes: it only reads. · The walk of slices.Equal over bytes. -/
import Derived.Test.YtllboenffepcgaaDoorJ1
import Derived.Test.YtllboenffepcgaaDoorJ3
set_option linter.unusedVariables false
set_option linter.unusedSimpArgs false
namespace Go.Proofs.YtllboenffepcgaaDoor
open Go.RowKit

theorem endL_out {b : List UInt8} {k : Nat} (h : b.length ≤ k + 1) : endL b k = none := by
  have hl : (b.drop k).length ≤ 1 := by rw [List.length_drop]; omega
  unfold endL
  match hb : b.drop k, hl with
  | [], _ => rfl
  | [_], _ => rfl
theorem endL_hit {b : List UInt8} {k : Nat} (h : k + 1 < b.length) (h1 : b[k] = 13) (h2 : b[k + 1] = 10) : endL b k = some k := by
  unfold endL
  rw [List.drop_eq_getElem_cons (by omega : k < b.length), List.drop_eq_getElem_cons h]
  unfold findE
  rw [if_pos ⟨h1, h2⟩]
  simp
theorem endL_step {b : List UInt8} {k : Nat} (h : k + 1 < b.length) (h1 : ¬ (b[k] = 13 ∧ b[k + 1] = 10)) : endL b k = endL b (k + 1) := by
  unfold endL
  rw [List.drop_eq_getElem_cons (by omega : k < b.length), List.drop_eq_getElem_cons h]
  rw [show findE (b[k] :: b[k + 1] :: b.drop (k + 1 + 1)) = (findE (b[k + 1] :: b.drop (k + 1 + 1))).map (· + 1) from by
    conv => lhs; unfold findE
    rw [if_neg h1]]
  cases findE (b[k + 1] :: b.drop (k + 1 + 1)) with
  | none => rfl
  | some e => simp only [Option.map_some, Option.some.injEq]; omega

set_option maxRecDepth 100000 in
set_option maxHeartbeats 1600000 in
theorem rEnd_any (p : Option Addr) (cap : Nat) (b : List UInt8) (at_ : Nat) (w : World) (B : Nat) (h : Bys w B p b) (hl : b.length ≤ 1048576) (hat : at_ ≤ 2097152) :
    Calls Tryd.prog 35 #[.slice p b.length cap, .int .i64 at_] w fun x w' => x = .returned (.int .i64 (ixV (endL b at_))) ∧ w = w' := by
  obtain ⟨o, ho⟩ : ∃ o, endL b at_ = o := ⟨_, rfl⟩
  have HO := Lib.hid ho
  have HB := Lib.hid h
  rw [ho]
  clear ho h
  generalize hn : b.length = n at *
  have HN := Lib.hid hn
  clear hn
  go_enter Tryd.func35, Tryd.ntmps35
  go_wp2_with fail
  go_loop [5] (fun i => ∃ k : Nat, k ≤ 2097152 ∧ i = .int .i64 k ∧ endL b k = o ∧ at_ ≤ k) (fun i => n - (intOf i).toNat)
  case atStart => exact ⟨at_, hat, rfl, HO.out, Nat.le_refl _⟩
  case round =>
    obtain ⟨k, hk, rfl, he, hak⟩ := hrel
    have HE := Lib.hid he
    clear he
    by_cases hlt : k + 1 < n
    · have hb := HB.out
      have hlen := HN.out
      obtain ⟨g, off, rfl, hbl, hc⟩ := hb (by omega)
      have hc0 : w.cell? ⟨g, off + k, none⟩ = some (.int .u8 ((b[k]'(by omega)).toNat : Int)) := hc k (by omega)
      have hc1 : w.cell? ⟨g, off + (k + 1), none⟩ = some (.int .u8 ((b[k + 1]'(by omega)).toNat : Int)) := hc (k + 1) (by omega)
      have hi0 : (0 : Int) ≤ k := by omega
      have hi1 : (k : Int) + 1 < n := by omega
      have hi2 : (0 : Int) ≤ (k : Int) + 1 := by omega
      have hi3 : (k : Int) < n := by omega
      by_cases h1 : b[k]'(by omega) = 13
      · by_cases h2 : b[k + 1]'(by omega) = 10
        · have R : Hid (o = some k) := Lib.hid (by rw [← HE.out]; exact endL_hit (by omega) h1 h2)
          rw [h1] at hc0
          rw [h2] at hc1
          clear hb hlen hc h1 h2
          go_wp2_with fail
          go_ret
          exact ⟨by rw [R.out]; rfl, rfl⟩
        · have R : Hid (endL b (k + 1) = o) := Lib.hid (by rw [← HE.out]; exact (endL_step (by omega) (fun h => h2 h.2)).symm)
          have e2 : ((b[k + 1]'(by omega) : UInt8).toNat : Int) ≠ 10 := fun e => h2 (UInt8.toNat_inj.1 (by show _ = 10; omega))
          rw [h1] at hc0
          have e3 : (((b[k + 1]'(by omega) : UInt8).toNat : Int) == 10) = false := by rw [beq_eq_false_iff_ne]; exact e2
          clear h1 h2 e2
          generalize hv : (((b[k + 1]'(by omega) : UInt8).toNat : Int)) = v at *
          clear hv hb hlen hc
          go_wp2_with fail
          go_round
          case rel => exact ⟨k + 1, by omega, by go_num, R.out, by omega⟩
          case measure => simp [intOf]; omega
      · have R : Hid (endL b (k + 1) = o) := Lib.hid (by rw [← HE.out]; exact (endL_step (by omega) (fun h => h1 h.1)).symm)
        have e3 : (((b[k]'(by omega) : UInt8).toNat : Int) == 13) = false := by rw [beq_eq_false_iff_ne]; exact fun e => h1 (UInt8.toNat_inj.1 (by show _ = 13; omega))
        clear h1
        generalize hv : (((b[k]'(by omega) : UInt8).toNat : Int)) = v at *
        clear hv hb hlen hc hc1
        go_wp2_with fail
        go_round
        case rel => exact ⟨k + 1, by omega, by go_num, R.out, by omega⟩
        case measure => simp [intOf]; omega
    · have R : Hid (o = none) := Lib.hid (by rw [← HE.out]; exact endL_out (by rw [HN.out]; omega))
      go_wp2_with fail
      go_ret
      exact ⟨by rw [R.out]; rfl, rfl⟩
end Go.Proofs.YtllboenffepcgaaDoor
namespace Go.Proofs.YtllboenffepcgaaDoor
open Go.RowKit

theorem const_bys (w : World) (l : List UInt8) (m : Nat × Nat) : Bys (w.alloc (.cells (Lib.byteCells l).toArray 5 m)) (w.alloc (.cells (Lib.byteCells l).toArray 5 m)).heap.size (some ⟨w.heap.size, 0, none⟩) l := fun h0 => by
  refine ⟨w.heap.size, 0, rfl, by rw [World.size_alloc]; omega, fun i hi => ?_⟩
  have hh := heap_alloc_new w (.cells (Lib.byteCells l).toArray 5 m)
  simp only [World.cell?, hh]
  simp [Lib.byteCells, hi]
theorem ann_ex : annP [97, 32, 83, 69, 76, 69, 67, 84, 32, 123, 53, 125] = some 5 := by decide +kernel
theorem quo_ex : quoB [97, 34, 98] = some [34, 97, 92, 34, 98, 34] := by decide +kernel
theorem lit_ex : litB [97, 98] = [123, 50, 125, 13, 10, 97, 98] := by decide +kernel

end Go.Proofs.YtllboenffepcgaaDoor
namespace Go.Proofs.YtllboenffepcgaaDoor
open Go.RowKit

theorem take_ne {l m : List UInt8} {k : Nat} (h1 : k < l.length) (h2 : k < m.length) (h : l[k] ≠ m[k]) : l ≠ m := by
  rintro rfl; exact h rfl
theorem take_all {l m : List UInt8} (hlm : l.length = m.length) {k : Nat} (hk : l.length ≤ k) (h : l.take k = m.take k) : l = m := by
  rwa [List.take_of_length_le hk, List.take_of_length_le (by omega)] at h
theorem take_next {l m : List UInt8} {k : Nat} (h1 : k < l.length) (h2 : k < m.length) (h : l.take k = m.take k) (e : l[k] = m[k]) : l.take (k + 1) = m.take (k + 1) := by
  rw [List.take_succ_eq_append_getElem h1, List.take_succ_eq_append_getElem h2, h, e]

set_option maxRecDepth 100000 in
set_option maxHeartbeats 800000 in
theorem equal_quiet (p q : Option Addr) (cap cap' : Nat) (l m : List UInt8) (w : World) (B B' : Nat) (h : Bys w B p l) (h' : Bys w B' q m) (hl : l.length ≤ 1048576) (hm : m.length ≤ 1048576) :
    Calls Tryd.prog 22 #[.slice p l.length cap, .slice q m.length cap'] w fun e w' => e = .returned (.bool (decide (l = m))) ∧ ∃ j, w' = w.drewN j := by
  by_cases hlm : l.length = m.length
  · have HC := Lib.hid (fun k (hk : k < l.length) => And.intro (h.at (by omega)) (h'.at (by omega)))
    obtain ⟨n, hn⟩ : ∃ n, n = l.length := ⟨_, rfl⟩
    have hn' : n = m.length := by omega
    rw [← hn, ← hn']
    have HN := Lib.hid hn
    have HM := Lib.hid hn'
    have hnb : n ≤ 1048576 := by omega
    clear h h' hl hm hlm hn hn'
    go_enter Tryd.func22, Tryd.ntmps22
    go_wp2_with fail
    go_loopw [13] (fun i wr => ∃ k : Nat, k ≤ n ∧ i = .int .i64 (k : Int) ∧ (∃ j, wr = w.drewN j) ∧ l.take k = m.take k) (fun i _ => n - (intOf i).toNat)
    case atStart => exact ⟨0, Nat.zero_le _, rfl, ⟨0, rfl⟩, rfl⟩
    case round =>
      obtain ⟨k, hk, rfl, ⟨j, rfl⟩, ha⟩ := hrel
      have A := Lib.hid ha
      clear ha
      by_cases hlt : k < n
      · have hk1 : k < l.length := by have := HN.out; omega
        have hk2 : k < m.length := by have := HM.out; omega
        obtain ⟨⟨b, o, rfl, _, c1⟩, ⟨b', o', rfl, _, c2⟩⟩ := HC.out k hk1
        have d1 : w.cell? ⟨b, o + k, none⟩ = some (.int .u8 (l[k].toNat : Int)) := c1 k hk1
        have d2 : w.cell? ⟨b', o' + k, none⟩ = some (.int .u8 (m[k].toNat : Int)) := c2 k hk2
        have hi0 : (0 : Int) ≤ k := by omega
        have hi1 : (k : Int) < n := by omega
        clear c1 c2
        by_cases he : l[k] = m[k]
        · have R := Lib.hid (take_next hk1 hk2 A.out he)
          have e1 : ((l[k].toNat : Int) != (m[k].toNat : Int)) = false := by rw [he, bne_self_eq_false]
          generalize (l[k].toNat : Int) = x at d1 e1
          generalize (m[k].toNat : Int) = y at d2 e1
          clear he hk1 hk2
          go_wp2_with fail
          go_quiet (fail)
          go_wp2_with fail
          go_roundw
          case rel => exact ⟨k + 1, by omega, by go_num, ⟨j + nq, rfl⟩, R.out⟩
          case measure => simp [intOf]; omega
        · have R := Lib.hid (decide_eq_false (take_ne hk1 hk2 he))
          have e1 : ((l[k].toNat : Int) != (m[k].toNat : Int)) = true := by
            rw [bne_iff_ne]; intro e; exact he (UInt8.toNat_inj.1 (by omega))
          generalize (l[k].toNat : Int) = x at d1 e1
          generalize (m[k].toNat : Int) = y at d2 e1
          clear he hk1 hk2
          go_wp2_with fail
          go_quiet (fail)
          go_wp2_with fail
          go_ret
          exact ⟨by rw [R.out]; rfl, ⟨j + nq, World.drewN_drewN _ _ _⟩⟩
      · have R := Lib.hid (decide_eq_true (take_all (by rw [← HN.out, ← HM.out]) (by rw [← HN.out]; omega) A.out))
        go_wp2_with fail
        go_ret
        exact ⟨by rw [R.out]; rfl, ⟨j, rfl⟩⟩
  · have e1 : ((l.length : Int) != (m.length : Int)) = true := by rw [bne_iff_ne]; omega
    have e2 : decide (l = m) = false := decide_eq_false (fun e => hlm (by rw [e]))
    rw [e2]
    generalize l.length = n at *
    generalize m.length = n' at *
    clear h h' e2 hlm
    go_enter Tryd.func22, Tryd.ntmps22
    go_wp2_with fail
    go_ret
    exact ⟨rfl, ⟨0, rfl⟩⟩
end Go.Proofs.YtllboenffepcgaaDoor
namespace Go.Proofs.YtllboenffepcgaaDoor
open Go.RowKit

theorem equal_any (p q : Option Addr) (cap cap' : Nat) (l m : List UInt8) (w : World) (B B' : Nat) (h : Bys w B p l) (h' : Bys w B' q m) (hl : l.length ≤ 1048576) (hm : m.length ≤ 1048576) :
    Calls Tryd.prog 22 #[.slice p l.length cap, .slice q m.length cap'] w fun e w' => e = .returned (.bool (decide (l = m))) ∧ Below w.heap.size w w' := by
  refine (equal_quiet p q cap cap' l m w B B' h h' hl hm).mono ?_
  rintro e w' ⟨rfl, j, rfl⟩
  exact ⟨rfl, YtllboenffepcgaaDoor.Below.many (Below.refl _ _) j⟩
end Go.Proofs.YtllboenffepcgaaDoor
