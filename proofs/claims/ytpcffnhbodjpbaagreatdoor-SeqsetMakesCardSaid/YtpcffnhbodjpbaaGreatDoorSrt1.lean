/- Rows of unsigned numbers, sorted in place: the words; insertion sort. -/
import Derived.Test.YtpcffnhbodjpbaaGreatDoorProg
import Derived.Test.YtpcffnhbodjpbaaGreatDoorGrow
import Derived.Sort.AssemblyPlain
import Derived.Sort.Row
set_option linter.unusedVariables false
set_option linter.unusedSimpArgs false
namespace Go.Proofs.YtpcffnhbodjpbaaGreatDoor
open Go.RowKit Go.Sort

/-- Each cell is there still, and frozen only if it was. -/
def Dom (w w' : World) : Prop := ∀ q : Addr, (w.cell? q).isSome = true → (w'.cell? q).isSome = true ∧ w'.frozen? q = w.frozen? q
theorem Dom.refl (w : World) : Dom w w := fun _ h => ⟨h, rfl⟩
theorem Dom.trans {a b c : World} (h : Dom a b) (k : Dom b c) : Dom a c := fun q hq => ⟨(k q (h q hq).1).1, (k q (h q hq).1).2.trans (h q hq).2⟩
theorem Dom.put {a b : World} (h : Dom a b) (p : Addr) (v : Value) : Dom a (b.setCell p v) := fun q hq => by
  obtain ⟨h1, h2⟩ := h q hq
  refine ⟨?_, by rw [World.frozen?_setCell]; exact h2⟩
  by_cases e : q = p
  · subst e
    obtain ⟨u, hu⟩ := Option.isSome_iff_exists.1 h1
    rw [World.cell?_setCell_same _ _ _ hu]; rfl
  · rw [World.cell?_setCell_other _ _ _ _ (fun e' => e (by rw [e']))]
    exact h1
theorem Dom.alloc {a b : World} (h : Dom a b) (o : Obj) : Dom a (b.alloc o) := fun q hq => by
  obtain ⟨h1, h2⟩ := h q hq
  obtain ⟨u, hu⟩ := Option.isSome_iff_exists.1 h1
  have hlt : q.block < b.heap.size := World.block_lt_of_cell? b q hu
  have e := Below.heap_alloc b o q.block hlt
  exact ⟨by rw [World.cell?_of_block e]; exact h1, by rw [World.frozen?_of_block e]; exact h2⟩
/-- The row at off holds d; nothing else has turned. -/
structure SP (w : World) (blk off : Nat) (d : Array Int) (w' : World) : Prop where
  holds : Holds (Value.int .u32) w' blk off d
  grown : w.grownBy w' (some blk)
  dom : Dom w w'
theorem SP.start {w : World} {blk off : Nat} {d : Array Int} (h : Holds (Value.int .u32) w blk off d) : SP w blk off d w := ⟨h, World.grownBy.refl _ _, .refl _⟩
theorem SP.trans {w w1 w2 : World} {blk off : Nat} {d d2 : Array Int} (h : SP w blk off d w1) (k : SP w1 blk off d2 w2) : SP w blk off d2 w2 := ⟨k.1, grown_trans h.2 k.2, h.3.trans k.3⟩
theorem SP.drewN {w w1 : World} {blk off : Nat} {d : Array Int} (h : SP w blk off d w1) (n : Nat) : SP w blk off d (w1.drewN n) := ⟨h.1, grown_drewN h.2 n, h.3⟩
theorem SP.drew {w w1 : World} {blk off : Nat} {d : Array Int} (h : SP w blk off d w1) : SP w blk off d w1.drew := ⟨h.1, grown_drew h.2, h.3⟩
theorem holds_put {W : World} {blk off i : Nat} {d : Array Int} (h : Holds (Value.int .u32) W blk off d) (hi : i < d.size) (x : Int) : Holds (Value.int .u32) (W.setCell ⟨blk, off + i, none⟩ (.int .u32 x)) blk off (d.setIfInBounds i x) := fun j hj => by
  rw [Array.size_setIfInBounds] at hj
  refine ⟨?_, by rw [World.frozen?_setCell]; exact (h j hj).2⟩
  by_cases e : j = i
  · subst e
    rw [getElem!_set_same d j x hi]
    exact World.cell?_setCell_same _ _ _ (h j hj).1
  · rw [getElem!_set_other d i j x e, World.cell?_setCell_other _ _ _ _ (fun e2 => e (by injection e2 with _ e3 _; omega))]
    exact (h j hj).1
theorem SP.swp {w W : World} {blk off i j : Nat} {d : Array Int} (h : SP w blk off d W) (hi : i < d.size) (hj : j < d.size) : SP w blk off (swp d i j) ((W.setCell ⟨blk, off + i, none⟩ (.int .u32 d[j]!)).setCell ⟨blk, off + j, none⟩ (.int .u32 d[i]!)) :=
  ⟨holds_put (holds_put h.1 hi _) (by rw [Array.size_setIfInBounds]; exact hj) _, grown_put (grown_put h.2 _ _) _ _, (h.3.put _ _).put _ _⟩

theorem swp_size (d : Array Int) (i j : Nat) : (swp d i j).size = d.size := by simp [swp]
theorem quietA {P : Program} {f : FuncId} {args : Array Value} {w : World} {a n : Nat} {v : Value} (h : Calls P f args (w.drewN (a + n)) fun e w' => e = .returned v ∧ w' = w.drewN (a + n)) :
    Calls P f args (w.drewN (a + n)) fun e w'' => e = .returned v ∧ ∃ m, w'' = w.drewN (a + m) := h.mono fun _ _ ⟨he, hm⟩ => ⟨he, n, hm⟩
set_option maxRecDepth 100000 in
theorem isNaN_u32 (x : Int) (w : World) : Calls Tryz.prog 119 #[.int .u32 x] w fun e w' => e = .returned (.bool false) ∧ w' = w := by
  go_enter Tryz.func119, Tryz.ntmps119
  go_wp2_with fail
  go_ret
  exact ⟨by simp, rfl⟩
set_option maxRecDepth 100000 in
theorem less_u32 (x y : Int) (w : World) : Calls Tryz.prog 95 #[.int .u32 x, .int .u32 y] w fun e w' => e = .returned (.bool (ltInt x y)) ∧ w' = w := by
  go_enter Tryz.func95, Tryz.ntmps95
  go_wp2_with (go_at_call 119; refine (isNaN_u32 _ _).mono ?_; rintro e w' ⟨rfl, rfl⟩)
  go_ret
  exact ⟨rfl, rfl⟩

set_option maxRecDepth 100000 in
set_option maxHeartbeats 1600000 in
theorem insertion_u32 (blk off cap a b : Nat) (d : Array Int) (w : World) (h : Holds (Value.int .u32) w blk off d) (hab : a ≤ b) (hb : b ≤ d.size) (hd : d.size ≤ 1048576) (hcap : d.size ≤ cap) :
    Calls Tryz.prog 89 #[.slice (some ⟨blk, off, none⟩) d.size cap, .int .i64 a, .int .i64 b] w fun e w' => (∃ v, e = .returned v) ∧ SP w blk off (insertionSort ltInt d a b) w' := by
  obtain ⟨n, hn⟩ : ∃ n, d.size = n := ⟨_, rfl⟩
  have HS := Lib.hid (And.intro (SP.start h) hn)
  rw [hn] at hb hd hcap ⊢
  clear h hn
  have hb1 : (b : Int) ≤ n := by omega
  have hd1 : (n : Int) ≤ 1048576 := by omega
  have ha1 : (a : Int) ≤ b := by omega
  go_enter Tryz.func89, Tryz.ntmps89
  go_wp2_with fail
  go_loopw [6] (fun i wr => ∃ (k : Nat) (dk : Array Int), i = .int .i64 k ∧ a < k ∧ dk.size = n ∧ SP w blk off dk wr ∧ insOuter ltInt a b k dk = insertionSort ltInt d a b) (fun i _ => b - (intOf i).toNat)
  case atStart => exact ⟨a + 1, d, by go_num, by omega, HS.out.2, HS.out.1, rfl⟩
  case round =>
    obtain ⟨k, dk, rfl, hak, hdk, hsp, hins⟩ := hrel
    obtain ⟨wo, rfl⟩ : ∃ wo : World, wo = wr := ⟨_, rfl⟩
    by_cases hlt : k < b
    · have HO := Lib.hid (And.intro hdk (And.intro hsp hins))
      clear hdk hsp hins
      have hk1 : (k : Int) < b := by omega
      go_wp2_with fail
      go_loopw [7] (fun j wr => ∃ (m : Nat) (dm : Array Int), j = .int .i64 m ∧ m ≤ k ∧ a ≤ m ∧ dm.size = n ∧ SP w blk off dm wr ∧ insInner ltInt a m dm = insInner ltInt a k dk) (fun j _ => (intOf j).toNat)
      case atStart => exact ⟨k, dk, rfl, Nat.le_refl _, by omega, HO.out.1, HO.out.2.1, rfl⟩
      case round =>
        obtain ⟨m, dm, rfl, hmk, ham, hdm, hsp, hin⟩ := hrel
        by_cases hma : a < m
        · obtain ⟨m, rfl⟩ : ∃ j, m = j + 1 := ⟨m - 1, by omega⟩
          obtain ⟨c1, f1⟩ := hsp.1 (m + 1) (by omega)
          obtain ⟨c0, f0⟩ := hsp.1 m (by omega)
          have hi1 : (a : Int) < (m : Int) + 1 := by omega
          have hi2 : (m : Int) + 1 < n := by omega
          have HI := Lib.hid (And.intro hdm (And.intro hsp hin))
          obtain ⟨x1, hx1⟩ : ∃ x, dm[m + 1]! = x := ⟨_, rfl⟩
          obtain ⟨x0, hx0⟩ : ∃ x, dm[m]! = x := ⟨_, rfl⟩
          rw [hx1] at c1
          rw [hx0] at c0
          have HX := Lib.hid (And.intro hx1 hx0)
          clear hdm hsp hin hx1 hx0
          cases hl : ltInt x1 x0 with
          | true =>
            have HLT := Lib.hid hl
            go_wp2_with fail
            go_quiet ((go_at_call 95; exact Calls.quiet_of_same (less_u32 _ _ _)))
            go_wp2_with fail
            go_region
            all_goals
              go_wp2_with fail
              obtain ⟨hx1, hx0⟩ := HX.out
              obtain ⟨hdm, hsp, hin⟩ := HI.out
              refine ⟨⟨m, swp dm (m + 1) m, rfl, by omega, by omega, by rw [swp_size]; exact hdm, ?_, ?_⟩, by simp [intOf]⟩
              · have h := (hsp.drewN (nq + 1)).swp (i := m + 1) (j := m) (by omega) (by omega)
                rw [hx1, hx0] at h
                exact h
              · rw [← hin]
                show _ = (if m + 1 > a && ltInt dm[m + 1]! dm[m]! then insInner ltInt a m (swp dm (m + 1) m) else dm)
                rw [hx1, hx0, HLT.out, decide_eq_true (by omega : m + 1 > a)]
                rfl
          | false =>
            have HLT := Lib.hid hl
            go_wp2_with fail
            go_quiet ((go_at_call 95; exact Calls.quiet_of_same (less_u32 _ _ _)))
            go_wp2_with fail
            obtain ⟨hx1, hx0⟩ := HX.out
            obtain ⟨hdm, hsp, hin⟩ := HI.out
            refine ⟨⟨k + 1, dm, by go_num, by omega, hdm, hsp.drewN _, ?_⟩, by simp [intOf]; omega⟩
            rw [← HO.out.2.2]
            conv => rhs; unfold insOuter
            rw [if_pos hlt, ← hin]
            congr 1
            show dm = (if m + 1 > a && ltInt dm[m + 1]! dm[m]! then insInner ltInt a m (swp dm (m + 1) m) else dm)
            rw [hx1, hx0, HLT.out, Bool.and_false, if_neg (by simp)]
        · have hm0 : m = a := by omega
          subst hm0
          have t1 : decide ((m : Int) < m) = false := decide_eq_false (by omega)
          have HI := Lib.hid (And.intro hdm (And.intro hsp hin))
          clear hdm hsp hin
          go_wp2_with fail
          go_quiet (fail)
          go_wp2_with fail
          obtain ⟨hdm, hsp, hin⟩ := HI.out
          refine ⟨⟨k + 1, dm, by go_num, by omega, hdm, hsp.drewN _, ?_⟩, by simp [intOf]; omega⟩
          rw [← HO.out.2.2]
          conv => rhs; unfold insOuter
          rw [if_pos hlt, ← hin]
          congr 1
          cases m with
          | zero => rfl
          | succ m =>
            show dm = (if m + 1 > m + 1 && ltInt dm[m + 1]! dm[m]! then insInner ltInt (m + 1) m (swp dm (m + 1) m) else dm)
            rw [decide_eq_false (by omega : ¬ m + 1 > m + 1), Bool.false_and, if_neg (by simp)]
    · have hk1 : ¬ (k : Int) < b := by omega
      have HO := Lib.hid (And.intro hdk (And.intro hsp hins))
      clear hdk hsp hins
      go_wp2_with fail
      go_end0
      obtain ⟨hdk, hsp, hins⟩ := HO.out
      refine ⟨⟨_, rfl⟩, ?_⟩
      rw [← hins]
      unfold insOuter
      rw [if_neg hlt]
      exact hsp
end Go.Proofs.YtpcffnhbodjpbaaGreatDoor
