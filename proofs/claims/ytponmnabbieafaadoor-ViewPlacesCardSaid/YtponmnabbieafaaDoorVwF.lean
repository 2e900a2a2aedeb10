/- Follow, by the program and by the reference. -/
import Derived.Test.YtponmnabbieafaaDoorVwL
set_option linter.unusedVariables false
set_option linter.unusedSimpArgs false
namespace Go.Proofs.YtponmnabbieafaaDoor
open Go Go.RowKit Go.Shelf Go.Lib Go.Sort

/-- What a client knows behind a response. -/
def folI (n k x : Int) : Int × Bool :=
  if k = 1 then (max n x, decide (n ≤ x)) else if k = 3 then (if 0 < x ∧ x ≤ n then (n - 1, true) else (n, false)) else if k = 4 then (n, decide (0 < x ∧ x ≤ n)) else (n, true)

set_option maxRecDepth 100000 in
set_option maxHeartbeats 3200000 in
theorem follow_any (n k x st it fl ui sz : Int) (tg tx : ByteArray) (P : Option Addr) (bl cv : Nat) (w : World) (hn : 0 ≤ n ∧ n ≤ 1000000000) (hx : 0 ≤ x ∧ x < 4294967296) :
    Calls Tryd.prog 10 #[.int .i64 n, .agg #[.int .i64 k, .int .u32 x, .string tg, .int .i64 st, .string tx, .int .i64 it, .int .u8 fl, .int .u32 ui, .int .u32 sz, .slice P bl cv]] w fun e w' => e = .returned (.tuple #[.int .i64 (folI n k x).1, .bool (folI n k x).2]) ∧ Below w.heap.size w w' := by
  obtain ⟨hn0, hn1⟩ := hn
  obtain ⟨hx0, hx1⟩ := hx
  have hw : IntKind.i64.wrap x = x := by simp [IntKind.wrap, IntKind.bits, IntKind.signed]; omega
  have hcs : (¬ (0 < x)) ∨ (0 < x ∧ x ≤ n) ∨ (0 < x ∧ n < x) := by omega
  have hwn : IntKind.i64.wrap (n - 1) = n - 1 := by simp [IntKind.wrap, IntKind.bits, IntKind.signed]; omega
  rcases hcs with hc | hc | hc
  · have a1 : ¬ (0 < x) := hc
    have a1d : decide (0 < x) = false := decide_eq_false a1
    have a2 : x < 1 := by omega
    have a2d : decide (x < 1) = true := decide_eq_true a2
    have a2n : ¬ (1 ≤ x) := by omega
    have a2e : decide (1 ≤ x) = false := decide_eq_false a2n
    by_cases hxn : n ≤ x
    · have a3 : x ≤ n := by omega
      have a4 : ¬ (n < x) := by omega
      have a5 : n ≤ x := by omega
      have a5d : decide (n ≤ x) = true := decide_eq_true a5
      have a3d : decide (x ≤ n) = true := decide_eq_true a3
      have a4d : decide (n < x) = false := decide_eq_false a4
      by_cases e1 : k = 1
      · subst e1
        have hf : folI n 1 x = (max n x, true) := by
          unfold folI
          first | (simp <;> omega) | (simp; done) | (simp [*] <;> omega) | (simp [*])
        rw [hf]
        have hb0 : Below w.heap.size w (w.alloc (.cells #[.int .i64 1, .int .u32 x, .string tg, .int .i64 st, .string tx, .int .i64 it, .int .u8 fl, .int .u32 ui, .int .u32 sz, .slice P bl cv] 34)) := (Below.refl _ w).alloc (Nat.le_refl _) _
        have HB := Lib.hid hb0
        clear hb0 hf
        go_enter Tryd.func10, Tryd.ntmps10
        go_wp2_with fail
        go_ret2
        exact ⟨by first | rfl | (simp; done) | (simp <;> omega), HB.out⟩
      by_cases e3 : k = 3
      · subst e3
        have hf : folI n 3 x = (n, false) := by
          unfold folI
          first | (simp <;> omega) | (simp; done) | (simp [*] <;> omega) | (simp [*])
        rw [hf]
        have hb0 : Below w.heap.size w (w.alloc (.cells #[.int .i64 3, .int .u32 x, .string tg, .int .i64 st, .string tx, .int .i64 it, .int .u8 fl, .int .u32 ui, .int .u32 sz, .slice P bl cv] 34)) := (Below.refl _ w).alloc (Nat.le_refl _) _
        have HB := Lib.hid hb0
        clear hb0 hf
        go_enter Tryd.func10, Tryd.ntmps10
        go_wp2_with fail
        go_ret2
        exact ⟨by first | rfl | (simp; done) | (simp <;> omega), HB.out⟩
      by_cases e4 : k = 4
      · subst e4
        have hf : folI n 4 x = (n, false) := by
          unfold folI
          first | (simp <;> omega) | (simp; done) | (simp [*] <;> omega) | (simp [*])
        rw [hf]
        have hb0 : Below w.heap.size w (w.alloc (.cells #[.int .i64 4, .int .u32 x, .string tg, .int .i64 st, .string tx, .int .i64 it, .int .u8 fl, .int .u32 ui, .int .u32 sz, .slice P bl cv] 34)) := (Below.refl _ w).alloc (Nat.le_refl _) _
        have HB := Lib.hid hb0
        clear hb0 hf
        go_enter Tryd.func10, Tryd.ntmps10
        go_wp2_with fail
        go_ret2
        exact ⟨by first | rfl | (simp; done) | (simp <;> omega), HB.out⟩
      have b1 : (k == 1) = false := by simpa using e1
      have b3 : (k == 3) = false := by simpa using e3
      have b4 : (k == 4) = false := by simpa using e4
      have hf : folI n k x = (n, true) := by
        unfold folI
        first | (simp <;> omega) | (simp; done) | (simp [*] <;> omega) | (simp [*])
      rw [hf]
      have hb0 : Below w.heap.size w (w.alloc (.cells #[.int .i64 k, .int .u32 x, .string tg, .int .i64 st, .string tx, .int .i64 it, .int .u8 fl, .int .u32 ui, .int .u32 sz, .slice P bl cv] 34)) := (Below.refl _ w).alloc (Nat.le_refl _) _
      have HB := Lib.hid hb0
      clear hb0 hf
      go_enter Tryd.func10, Tryd.ntmps10
      go_wp2_with fail
      go_ret2
      exact ⟨by first | rfl | (simp; done) | (simp <;> omega), HB.out⟩
    · have a3 : x ≤ n := by omega
      have a4 : ¬ (n < x) := by omega
      have a5 : ¬ (n ≤ x) := by omega
      have a5d : decide (n ≤ x) = false := decide_eq_false a5
      have a3d : decide (x ≤ n) = true := decide_eq_true a3
      have a4d : decide (n < x) = false := decide_eq_false a4
      by_cases e1 : k = 1
      · subst e1
        have hf : folI n 1 x = (max n x, false) := by
          unfold folI
          first | (simp <;> omega) | (simp; done) | (simp [*] <;> omega) | (simp [*])
        rw [hf]
        have hb0 : Below w.heap.size w (w.alloc (.cells #[.int .i64 1, .int .u32 x, .string tg, .int .i64 st, .string tx, .int .i64 it, .int .u8 fl, .int .u32 ui, .int .u32 sz, .slice P bl cv] 34)) := (Below.refl _ w).alloc (Nat.le_refl _) _
        have HB := Lib.hid hb0
        clear hb0 hf
        go_enter Tryd.func10, Tryd.ntmps10
        go_wp2_with fail
        go_ret2
        exact ⟨by first | rfl | (simp; done) | (simp <;> omega), HB.out⟩
      by_cases e3 : k = 3
      · subst e3
        have hf : folI n 3 x = (n, false) := by
          unfold folI
          first | (simp <;> omega) | (simp; done) | (simp [*] <;> omega) | (simp [*])
        rw [hf]
        have hb0 : Below w.heap.size w (w.alloc (.cells #[.int .i64 3, .int .u32 x, .string tg, .int .i64 st, .string tx, .int .i64 it, .int .u8 fl, .int .u32 ui, .int .u32 sz, .slice P bl cv] 34)) := (Below.refl _ w).alloc (Nat.le_refl _) _
        have HB := Lib.hid hb0
        clear hb0 hf
        go_enter Tryd.func10, Tryd.ntmps10
        go_wp2_with fail
        go_ret2
        exact ⟨by first | rfl | (simp; done) | (simp <;> omega), HB.out⟩
      by_cases e4 : k = 4
      · subst e4
        have hf : folI n 4 x = (n, false) := by
          unfold folI
          first | (simp <;> omega) | (simp; done) | (simp [*] <;> omega) | (simp [*])
        rw [hf]
        have hb0 : Below w.heap.size w (w.alloc (.cells #[.int .i64 4, .int .u32 x, .string tg, .int .i64 st, .string tx, .int .i64 it, .int .u8 fl, .int .u32 ui, .int .u32 sz, .slice P bl cv] 34)) := (Below.refl _ w).alloc (Nat.le_refl _) _
        have HB := Lib.hid hb0
        clear hb0 hf
        go_enter Tryd.func10, Tryd.ntmps10
        go_wp2_with fail
        go_ret2
        exact ⟨by first | rfl | (simp; done) | (simp <;> omega), HB.out⟩
      have b1 : (k == 1) = false := by simpa using e1
      have b3 : (k == 3) = false := by simpa using e3
      have b4 : (k == 4) = false := by simpa using e4
      have hf : folI n k x = (n, true) := by
        unfold folI
        first | (simp <;> omega) | (simp; done) | (simp [*] <;> omega) | (simp [*])
      rw [hf]
      have hb0 : Below w.heap.size w (w.alloc (.cells #[.int .i64 k, .int .u32 x, .string tg, .int .i64 st, .string tx, .int .i64 it, .int .u8 fl, .int .u32 ui, .int .u32 sz, .slice P bl cv] 34)) := (Below.refl _ w).alloc (Nat.le_refl _) _
      have HB := Lib.hid hb0
      clear hb0 hf
      go_enter Tryd.func10, Tryd.ntmps10
      go_wp2_with fail
      go_ret2
      exact ⟨by first | rfl | (simp; done) | (simp <;> omega), HB.out⟩
  · have a1 : 0 < x := by omega
    have a1d : decide (0 < x) = true := decide_eq_true a1
    have a2 : ¬ (x < 1) := by omega
    have a2d : decide (x < 1) = false := decide_eq_false a2
    have a2n : 1 ≤ x := by omega
    have a2e : decide (1 ≤ x) = true := decide_eq_true a2n
    have a3 : x ≤ n := by omega
    have a3d : decide (x ≤ n) = true := decide_eq_true a3
    have a4 : ¬ (n < x) := by omega
    have a4d : decide (n < x) = false := decide_eq_false a4
    by_cases hxn : n ≤ x
    · have a5d : decide (n ≤ x) = true := decide_eq_true hxn
      by_cases e1 : k = 1
      · subst e1
        have hf : folI n 1 x = (max n x, true) := by
          unfold folI
          first | (simp <;> omega) | (simp; done) | (simp [*] <;> omega) | (simp [*])
        rw [hf]
        have hb0 : Below w.heap.size w (w.alloc (.cells #[.int .i64 1, .int .u32 x, .string tg, .int .i64 st, .string tx, .int .i64 it, .int .u8 fl, .int .u32 ui, .int .u32 sz, .slice P bl cv] 34)) := (Below.refl _ w).alloc (Nat.le_refl _) _
        have HB := Lib.hid hb0
        clear hb0 hf
        go_enter Tryd.func10, Tryd.ntmps10
        go_wp2_with fail
        go_ret2
        exact ⟨by first | rfl | (simp; done) | (simp <;> omega), HB.out⟩
      by_cases e3 : k = 3
      · subst e3
        have hf : folI n 3 x = (n - 1, true) := by
          unfold folI
          first | (simp <;> omega) | (simp; done) | (simp [*] <;> omega) | (simp [*])
        rw [hf]
        have hb0 : Below w.heap.size w (w.alloc (.cells #[.int .i64 3, .int .u32 x, .string tg, .int .i64 st, .string tx, .int .i64 it, .int .u8 fl, .int .u32 ui, .int .u32 sz, .slice P bl cv] 34)) := (Below.refl _ w).alloc (Nat.le_refl _) _
        have HB := Lib.hid hb0
        clear hb0 hf
        go_enter Tryd.func10, Tryd.ntmps10
        go_wp2_with fail
        go_ret2
        exact ⟨by first | rfl | (simp; done) | (simp <;> omega), HB.out⟩
      by_cases e4 : k = 4
      · subst e4
        have hf : folI n 4 x = (n, true) := by
          unfold folI
          first | (simp <;> omega) | (simp; done) | (simp [*] <;> omega) | (simp [*])
        rw [hf]
        have hb0 : Below w.heap.size w (w.alloc (.cells #[.int .i64 4, .int .u32 x, .string tg, .int .i64 st, .string tx, .int .i64 it, .int .u8 fl, .int .u32 ui, .int .u32 sz, .slice P bl cv] 34)) := (Below.refl _ w).alloc (Nat.le_refl _) _
        have HB := Lib.hid hb0
        clear hb0 hf
        go_enter Tryd.func10, Tryd.ntmps10
        go_wp2_with fail
        go_ret2
        exact ⟨by first | rfl | (simp; done) | (simp <;> omega), HB.out⟩
      have b1 : (k == 1) = false := by simpa using e1
      have b3 : (k == 3) = false := by simpa using e3
      have b4 : (k == 4) = false := by simpa using e4
      have hf : folI n k x = (n, true) := by
        unfold folI
        first | (simp <;> omega) | (simp; done) | (simp [*] <;> omega) | (simp [*])
      rw [hf]
      have hb0 : Below w.heap.size w (w.alloc (.cells #[.int .i64 k, .int .u32 x, .string tg, .int .i64 st, .string tx, .int .i64 it, .int .u8 fl, .int .u32 ui, .int .u32 sz, .slice P bl cv] 34)) := (Below.refl _ w).alloc (Nat.le_refl _) _
      have HB := Lib.hid hb0
      clear hb0 hf
      go_enter Tryd.func10, Tryd.ntmps10
      go_wp2_with fail
      go_ret2
      exact ⟨by first | rfl | (simp; done) | (simp <;> omega), HB.out⟩
    · have a5d : decide (n ≤ x) = false := decide_eq_false hxn
      by_cases e1 : k = 1
      · subst e1
        have hf : folI n 1 x = (max n x, false) := by
          unfold folI
          first | (simp <;> omega) | (simp; done) | (simp [*] <;> omega) | (simp [*])
        rw [hf]
        have hb0 : Below w.heap.size w (w.alloc (.cells #[.int .i64 1, .int .u32 x, .string tg, .int .i64 st, .string tx, .int .i64 it, .int .u8 fl, .int .u32 ui, .int .u32 sz, .slice P bl cv] 34)) := (Below.refl _ w).alloc (Nat.le_refl _) _
        have HB := Lib.hid hb0
        clear hb0 hf
        go_enter Tryd.func10, Tryd.ntmps10
        go_wp2_with fail
        go_ret2
        exact ⟨by first | rfl | (simp; done) | (simp <;> omega), HB.out⟩
      by_cases e3 : k = 3
      · subst e3
        have hf : folI n 3 x = (n - 1, true) := by
          unfold folI
          first | (simp <;> omega) | (simp; done) | (simp [*] <;> omega) | (simp [*])
        rw [hf]
        have hb0 : Below w.heap.size w (w.alloc (.cells #[.int .i64 3, .int .u32 x, .string tg, .int .i64 st, .string tx, .int .i64 it, .int .u8 fl, .int .u32 ui, .int .u32 sz, .slice P bl cv] 34)) := (Below.refl _ w).alloc (Nat.le_refl _) _
        have HB := Lib.hid hb0
        clear hb0 hf
        go_enter Tryd.func10, Tryd.ntmps10
        go_wp2_with fail
        go_ret2
        exact ⟨by first | rfl | (simp; done) | (simp <;> omega), HB.out⟩
      by_cases e4 : k = 4
      · subst e4
        have hf : folI n 4 x = (n, true) := by
          unfold folI
          first | (simp <;> omega) | (simp; done) | (simp [*] <;> omega) | (simp [*])
        rw [hf]
        have hb0 : Below w.heap.size w (w.alloc (.cells #[.int .i64 4, .int .u32 x, .string tg, .int .i64 st, .string tx, .int .i64 it, .int .u8 fl, .int .u32 ui, .int .u32 sz, .slice P bl cv] 34)) := (Below.refl _ w).alloc (Nat.le_refl _) _
        have HB := Lib.hid hb0
        clear hb0 hf
        go_enter Tryd.func10, Tryd.ntmps10
        go_wp2_with fail
        go_ret2
        exact ⟨by first | rfl | (simp; done) | (simp <;> omega), HB.out⟩
      have b1 : (k == 1) = false := by simpa using e1
      have b3 : (k == 3) = false := by simpa using e3
      have b4 : (k == 4) = false := by simpa using e4
      have hf : folI n k x = (n, true) := by
        unfold folI
        first | (simp <;> omega) | (simp; done) | (simp [*] <;> omega) | (simp [*])
      rw [hf]
      have hb0 : Below w.heap.size w (w.alloc (.cells #[.int .i64 k, .int .u32 x, .string tg, .int .i64 st, .string tx, .int .i64 it, .int .u8 fl, .int .u32 ui, .int .u32 sz, .slice P bl cv] 34)) := (Below.refl _ w).alloc (Nat.le_refl _) _
      have HB := Lib.hid hb0
      clear hb0 hf
      go_enter Tryd.func10, Tryd.ntmps10
      go_wp2_with fail
      go_ret2
      exact ⟨by first | rfl | (simp; done) | (simp <;> omega), HB.out⟩
  · have a1 : 0 < x := by omega
    have a1d : decide (0 < x) = true := decide_eq_true a1
    have a2 : ¬ (x < 1) := by omega
    have a2d : decide (x < 1) = false := decide_eq_false a2
    have a2n : 1 ≤ x := by omega
    have a2e : decide (1 ≤ x) = true := decide_eq_true a2n
    have a3 : ¬ (x ≤ n) := by omega
    have a3d : decide (x ≤ n) = false := decide_eq_false a3
    have a4 : n < x := by omega
    have a4d : decide (n < x) = true := decide_eq_true a4
    have a5 : n ≤ x := by omega
    have a5d : decide (n ≤ x) = true := decide_eq_true a5
    by_cases e1 : k = 1
    · subst e1
      have hf : folI n 1 x = (max n x, true) := by
        unfold folI
        first | (simp <;> omega) | (simp; done) | (simp [*] <;> omega) | (simp [*])
      rw [hf]
      have hb0 : Below w.heap.size w (w.alloc (.cells #[.int .i64 1, .int .u32 x, .string tg, .int .i64 st, .string tx, .int .i64 it, .int .u8 fl, .int .u32 ui, .int .u32 sz, .slice P bl cv] 34)) := (Below.refl _ w).alloc (Nat.le_refl _) _
      have HB := Lib.hid hb0
      clear hb0 hf
      go_enter Tryd.func10, Tryd.ntmps10
      go_wp2_with fail
      go_ret2
      exact ⟨by first | rfl | (simp; done) | (simp <;> omega), HB.out⟩
    by_cases e3 : k = 3
    · subst e3
      have hf : folI n 3 x = (n, false) := by
        unfold folI
        first | (simp <;> omega) | (simp; done) | (simp [*] <;> omega) | (simp [*])
      rw [hf]
      have hb0 : Below w.heap.size w (w.alloc (.cells #[.int .i64 3, .int .u32 x, .string tg, .int .i64 st, .string tx, .int .i64 it, .int .u8 fl, .int .u32 ui, .int .u32 sz, .slice P bl cv] 34)) := (Below.refl _ w).alloc (Nat.le_refl _) _
      have HB := Lib.hid hb0
      clear hb0 hf
      go_enter Tryd.func10, Tryd.ntmps10
      go_wp2_with fail
      go_ret2
      exact ⟨by first | rfl | (simp; done) | (simp <;> omega), HB.out⟩
    by_cases e4 : k = 4
    · subst e4
      have hf : folI n 4 x = (n, false) := by
        unfold folI
        first | (simp <;> omega) | (simp; done) | (simp [*] <;> omega) | (simp [*])
      rw [hf]
      have hb0 : Below w.heap.size w (w.alloc (.cells #[.int .i64 4, .int .u32 x, .string tg, .int .i64 st, .string tx, .int .i64 it, .int .u8 fl, .int .u32 ui, .int .u32 sz, .slice P bl cv] 34)) := (Below.refl _ w).alloc (Nat.le_refl _) _
      have HB := Lib.hid hb0
      clear hb0 hf
      go_enter Tryd.func10, Tryd.ntmps10
      go_wp2_with fail
      go_ret2
      exact ⟨by first | rfl | (simp; done) | (simp <;> omega), HB.out⟩
    have b1 : (k == 1) = false := by simpa using e1
    have b3 : (k == 3) = false := by simpa using e3
    have b4 : (k == 4) = false := by simpa using e4
    have hf : folI n k x = (n, true) := by
      unfold folI
      first | (simp <;> omega) | (simp; done) | (simp [*] <;> omega) | (simp [*])
    rw [hf]
    have hb0 : Below w.heap.size w (w.alloc (.cells #[.int .i64 k, .int .u32 x, .string tg, .int .i64 st, .string tx, .int .i64 it, .int .u8 fl, .int .u32 ui, .int .u32 sz, .slice P bl cv] 34)) := (Below.refl _ w).alloc (Nat.le_refl _) _
    have HB := Lib.hid hb0
    clear hb0 hf
    go_enter Tryd.func10, Tryd.ntmps10
    go_wp2_with fail
    go_ret2
    exact ⟨by first | rfl | (simp; done) | (simp <;> omega), HB.out⟩

set_option maxRecDepth 100000 in
set_option maxHeartbeats 3200000 in
theorem rfollow_any (n k x st it fl ui sz : Int) (tg tx : ByteArray) (P : Option Addr) (bl cv : Nat) (w : World) (hn : 0 ≤ n ∧ n ≤ 1000000000) (hx : 0 ≤ x ∧ x < 4294967296) :
    Calls Tryd.prog 12 #[.int .i64 n, .agg #[.int .i64 k, .int .u32 x, .string tg, .int .i64 st, .string tx, .int .i64 it, .int .u8 fl, .int .u32 ui, .int .u32 sz, .slice P bl cv]] w fun e w' => e = .returned (.tuple #[.int .i64 (folI n k x).1, .bool (folI n k x).2]) ∧ Below w.heap.size w w' := by
  obtain ⟨hn0, hn1⟩ := hn
  obtain ⟨hx0, hx1⟩ := hx
  have hw : IntKind.i64.wrap x = x := by simp [IntKind.wrap, IntKind.bits, IntKind.signed]; omega
  have hcs : (¬ (0 < x)) ∨ (0 < x ∧ x ≤ n) ∨ (0 < x ∧ n < x) := by omega
  have hwn : IntKind.i64.wrap (n - 1) = n - 1 := by simp [IntKind.wrap, IntKind.bits, IntKind.signed]; omega
  rcases hcs with hc | hc | hc
  · have a1 : ¬ (0 < x) := hc
    have a1d : decide (0 < x) = false := decide_eq_false a1
    have a2 : x < 1 := by omega
    have a2d : decide (x < 1) = true := decide_eq_true a2
    have a2n : ¬ (1 ≤ x) := by omega
    have a2e : decide (1 ≤ x) = false := decide_eq_false a2n
    by_cases hxn : n ≤ x
    · have a3 : x ≤ n := by omega
      have a4 : ¬ (n < x) := by omega
      have a5 : n ≤ x := by omega
      have a5d : decide (n ≤ x) = true := decide_eq_true a5
      have a3d : decide (x ≤ n) = true := decide_eq_true a3
      have a4d : decide (n < x) = false := decide_eq_false a4
      by_cases e1 : k = 1
      · subst e1
        have hf : folI n 1 x = (max n x, true) := by
          unfold folI
          first | (simp <;> omega) | (simp; done) | (simp [*] <;> omega) | (simp [*])
        rw [hf]
        have hb0 : Below w.heap.size w (w.alloc (.cells #[.int .i64 1, .int .u32 x, .string tg, .int .i64 st, .string tx, .int .i64 it, .int .u8 fl, .int .u32 ui, .int .u32 sz, .slice P bl cv] 34)) := (Below.refl _ w).alloc (Nat.le_refl _) _
        have HB := Lib.hid hb0
        clear hb0 hf
        go_enter Tryd.func12, Tryd.ntmps12
        go_wp2_with fail
        go_ret2
        exact ⟨by first | rfl | (simp; done) | (simp <;> omega), HB.out⟩
      by_cases e3 : k = 3
      · subst e3
        have hf : folI n 3 x = (n, false) := by
          unfold folI
          first | (simp <;> omega) | (simp; done) | (simp [*] <;> omega) | (simp [*])
        rw [hf]
        have hb0 : Below w.heap.size w (w.alloc (.cells #[.int .i64 3, .int .u32 x, .string tg, .int .i64 st, .string tx, .int .i64 it, .int .u8 fl, .int .u32 ui, .int .u32 sz, .slice P bl cv] 34)) := (Below.refl _ w).alloc (Nat.le_refl _) _
        have HB := Lib.hid hb0
        clear hb0 hf
        go_enter Tryd.func12, Tryd.ntmps12
        go_wp2_with fail
        go_ret2
        exact ⟨by first | rfl | (simp; done) | (simp <;> omega), HB.out⟩
      by_cases e4 : k = 4
      · subst e4
        have hf : folI n 4 x = (n, false) := by
          unfold folI
          first | (simp <;> omega) | (simp; done) | (simp [*] <;> omega) | (simp [*])
        rw [hf]
        have hb0 : Below w.heap.size w (w.alloc (.cells #[.int .i64 4, .int .u32 x, .string tg, .int .i64 st, .string tx, .int .i64 it, .int .u8 fl, .int .u32 ui, .int .u32 sz, .slice P bl cv] 34)) := (Below.refl _ w).alloc (Nat.le_refl _) _
        have HB := Lib.hid hb0
        clear hb0 hf
        go_enter Tryd.func12, Tryd.ntmps12
        go_wp2_with fail
        go_ret2
        exact ⟨by first | rfl | (simp; done) | (simp <;> omega), HB.out⟩
      have b1 : (k == 1) = false := by simpa using e1
      have b3 : (k == 3) = false := by simpa using e3
      have b4 : (k == 4) = false := by simpa using e4
      have hf : folI n k x = (n, true) := by
        unfold folI
        first | (simp <;> omega) | (simp; done) | (simp [*] <;> omega) | (simp [*])
      rw [hf]
      have hb0 : Below w.heap.size w (w.alloc (.cells #[.int .i64 k, .int .u32 x, .string tg, .int .i64 st, .string tx, .int .i64 it, .int .u8 fl, .int .u32 ui, .int .u32 sz, .slice P bl cv] 34)) := (Below.refl _ w).alloc (Nat.le_refl _) _
      have HB := Lib.hid hb0
      clear hb0 hf
      go_enter Tryd.func12, Tryd.ntmps12
      go_wp2_with fail
      go_ret2
      exact ⟨by first | rfl | (simp; done) | (simp <;> omega), HB.out⟩
    · have a3 : x ≤ n := by omega
      have a4 : ¬ (n < x) := by omega
      have a5 : ¬ (n ≤ x) := by omega
      have a5d : decide (n ≤ x) = false := decide_eq_false a5
      have a3d : decide (x ≤ n) = true := decide_eq_true a3
      have a4d : decide (n < x) = false := decide_eq_false a4
      by_cases e1 : k = 1
      · subst e1
        have hf : folI n 1 x = (max n x, false) := by
          unfold folI
          first | (simp <;> omega) | (simp; done) | (simp [*] <;> omega) | (simp [*])
        rw [hf]
        have hb0 : Below w.heap.size w (w.alloc (.cells #[.int .i64 1, .int .u32 x, .string tg, .int .i64 st, .string tx, .int .i64 it, .int .u8 fl, .int .u32 ui, .int .u32 sz, .slice P bl cv] 34)) := (Below.refl _ w).alloc (Nat.le_refl _) _
        have HB := Lib.hid hb0
        clear hb0 hf
        go_enter Tryd.func12, Tryd.ntmps12
        go_wp2_with fail
        go_ret2
        exact ⟨by first | rfl | (simp; done) | (simp <;> omega), HB.out⟩
      by_cases e3 : k = 3
      · subst e3
        have hf : folI n 3 x = (n, false) := by
          unfold folI
          first | (simp <;> omega) | (simp; done) | (simp [*] <;> omega) | (simp [*])
        rw [hf]
        have hb0 : Below w.heap.size w (w.alloc (.cells #[.int .i64 3, .int .u32 x, .string tg, .int .i64 st, .string tx, .int .i64 it, .int .u8 fl, .int .u32 ui, .int .u32 sz, .slice P bl cv] 34)) := (Below.refl _ w).alloc (Nat.le_refl _) _
        have HB := Lib.hid hb0
        clear hb0 hf
        go_enter Tryd.func12, Tryd.ntmps12
        go_wp2_with fail
        go_ret2
        exact ⟨by first | rfl | (simp; done) | (simp <;> omega), HB.out⟩
      by_cases e4 : k = 4
      · subst e4
        have hf : folI n 4 x = (n, false) := by
          unfold folI
          first | (simp <;> omega) | (simp; done) | (simp [*] <;> omega) | (simp [*])
        rw [hf]
        have hb0 : Below w.heap.size w (w.alloc (.cells #[.int .i64 4, .int .u32 x, .string tg, .int .i64 st, .string tx, .int .i64 it, .int .u8 fl, .int .u32 ui, .int .u32 sz, .slice P bl cv] 34)) := (Below.refl _ w).alloc (Nat.le_refl _) _
        have HB := Lib.hid hb0
        clear hb0 hf
        go_enter Tryd.func12, Tryd.ntmps12
        go_wp2_with fail
        go_ret2
        exact ⟨by first | rfl | (simp; done) | (simp <;> omega), HB.out⟩
      have b1 : (k == 1) = false := by simpa using e1
      have b3 : (k == 3) = false := by simpa using e3
      have b4 : (k == 4) = false := by simpa using e4
      have hf : folI n k x = (n, true) := by
        unfold folI
        first | (simp <;> omega) | (simp; done) | (simp [*] <;> omega) | (simp [*])
      rw [hf]
      have hb0 : Below w.heap.size w (w.alloc (.cells #[.int .i64 k, .int .u32 x, .string tg, .int .i64 st, .string tx, .int .i64 it, .int .u8 fl, .int .u32 ui, .int .u32 sz, .slice P bl cv] 34)) := (Below.refl _ w).alloc (Nat.le_refl _) _
      have HB := Lib.hid hb0
      clear hb0 hf
      go_enter Tryd.func12, Tryd.ntmps12
      go_wp2_with fail
      go_ret2
      exact ⟨by first | rfl | (simp; done) | (simp <;> omega), HB.out⟩
  · have a1 : 0 < x := by omega
    have a1d : decide (0 < x) = true := decide_eq_true a1
    have a2 : ¬ (x < 1) := by omega
    have a2d : decide (x < 1) = false := decide_eq_false a2
    have a2n : 1 ≤ x := by omega
    have a2e : decide (1 ≤ x) = true := decide_eq_true a2n
    have a3 : x ≤ n := by omega
    have a3d : decide (x ≤ n) = true := decide_eq_true a3
    have a4 : ¬ (n < x) := by omega
    have a4d : decide (n < x) = false := decide_eq_false a4
    by_cases hxn : n ≤ x
    · have a5d : decide (n ≤ x) = true := decide_eq_true hxn
      by_cases e1 : k = 1
      · subst e1
        have hf : folI n 1 x = (max n x, true) := by
          unfold folI
          first | (simp <;> omega) | (simp; done) | (simp [*] <;> omega) | (simp [*])
        rw [hf]
        have hb0 : Below w.heap.size w (w.alloc (.cells #[.int .i64 1, .int .u32 x, .string tg, .int .i64 st, .string tx, .int .i64 it, .int .u8 fl, .int .u32 ui, .int .u32 sz, .slice P bl cv] 34)) := (Below.refl _ w).alloc (Nat.le_refl _) _
        have HB := Lib.hid hb0
        clear hb0 hf
        go_enter Tryd.func12, Tryd.ntmps12
        go_wp2_with fail
        go_ret2
        exact ⟨by first | rfl | (simp; done) | (simp <;> omega), HB.out⟩
      by_cases e3 : k = 3
      · subst e3
        have hf : folI n 3 x = (n - 1, true) := by
          unfold folI
          first | (simp <;> omega) | (simp; done) | (simp [*] <;> omega) | (simp [*])
        rw [hf]
        have hb0 : Below w.heap.size w (w.alloc (.cells #[.int .i64 3, .int .u32 x, .string tg, .int .i64 st, .string tx, .int .i64 it, .int .u8 fl, .int .u32 ui, .int .u32 sz, .slice P bl cv] 34)) := (Below.refl _ w).alloc (Nat.le_refl _) _
        have HB := Lib.hid hb0
        clear hb0 hf
        go_enter Tryd.func12, Tryd.ntmps12
        go_wp2_with fail
        go_ret2
        exact ⟨by first | rfl | (simp; done) | (simp <;> omega), HB.out⟩
      by_cases e4 : k = 4
      · subst e4
        have hf : folI n 4 x = (n, true) := by
          unfold folI
          first | (simp <;> omega) | (simp; done) | (simp [*] <;> omega) | (simp [*])
        rw [hf]
        have hb0 : Below w.heap.size w (w.alloc (.cells #[.int .i64 4, .int .u32 x, .string tg, .int .i64 st, .string tx, .int .i64 it, .int .u8 fl, .int .u32 ui, .int .u32 sz, .slice P bl cv] 34)) := (Below.refl _ w).alloc (Nat.le_refl _) _
        have HB := Lib.hid hb0
        clear hb0 hf
        go_enter Tryd.func12, Tryd.ntmps12
        go_wp2_with fail
        go_ret2
        exact ⟨by first | rfl | (simp; done) | (simp <;> omega), HB.out⟩
      have b1 : (k == 1) = false := by simpa using e1
      have b3 : (k == 3) = false := by simpa using e3
      have b4 : (k == 4) = false := by simpa using e4
      have hf : folI n k x = (n, true) := by
        unfold folI
        first | (simp <;> omega) | (simp; done) | (simp [*] <;> omega) | (simp [*])
      rw [hf]
      have hb0 : Below w.heap.size w (w.alloc (.cells #[.int .i64 k, .int .u32 x, .string tg, .int .i64 st, .string tx, .int .i64 it, .int .u8 fl, .int .u32 ui, .int .u32 sz, .slice P bl cv] 34)) := (Below.refl _ w).alloc (Nat.le_refl _) _
      have HB := Lib.hid hb0
      clear hb0 hf
      go_enter Tryd.func12, Tryd.ntmps12
      go_wp2_with fail
      go_ret2
      exact ⟨by first | rfl | (simp; done) | (simp <;> omega), HB.out⟩
    · have a5d : decide (n ≤ x) = false := decide_eq_false hxn
      by_cases e1 : k = 1
      · subst e1
        have hf : folI n 1 x = (max n x, false) := by
          unfold folI
          first | (simp <;> omega) | (simp; done) | (simp [*] <;> omega) | (simp [*])
        rw [hf]
        have hb0 : Below w.heap.size w (w.alloc (.cells #[.int .i64 1, .int .u32 x, .string tg, .int .i64 st, .string tx, .int .i64 it, .int .u8 fl, .int .u32 ui, .int .u32 sz, .slice P bl cv] 34)) := (Below.refl _ w).alloc (Nat.le_refl _) _
        have HB := Lib.hid hb0
        clear hb0 hf
        go_enter Tryd.func12, Tryd.ntmps12
        go_wp2_with fail
        go_ret2
        exact ⟨by first | rfl | (simp; done) | (simp <;> omega), HB.out⟩
      by_cases e3 : k = 3
      · subst e3
        have hf : folI n 3 x = (n - 1, true) := by
          unfold folI
          first | (simp <;> omega) | (simp; done) | (simp [*] <;> omega) | (simp [*])
        rw [hf]
        have hb0 : Below w.heap.size w (w.alloc (.cells #[.int .i64 3, .int .u32 x, .string tg, .int .i64 st, .string tx, .int .i64 it, .int .u8 fl, .int .u32 ui, .int .u32 sz, .slice P bl cv] 34)) := (Below.refl _ w).alloc (Nat.le_refl _) _
        have HB := Lib.hid hb0
        clear hb0 hf
        go_enter Tryd.func12, Tryd.ntmps12
        go_wp2_with fail
        go_ret2
        exact ⟨by first | rfl | (simp; done) | (simp <;> omega), HB.out⟩
      by_cases e4 : k = 4
      · subst e4
        have hf : folI n 4 x = (n, true) := by
          unfold folI
          first | (simp <;> omega) | (simp; done) | (simp [*] <;> omega) | (simp [*])
        rw [hf]
        have hb0 : Below w.heap.size w (w.alloc (.cells #[.int .i64 4, .int .u32 x, .string tg, .int .i64 st, .string tx, .int .i64 it, .int .u8 fl, .int .u32 ui, .int .u32 sz, .slice P bl cv] 34)) := (Below.refl _ w).alloc (Nat.le_refl _) _
        have HB := Lib.hid hb0
        clear hb0 hf
        go_enter Tryd.func12, Tryd.ntmps12
        go_wp2_with fail
        go_ret2
        exact ⟨by first | rfl | (simp; done) | (simp <;> omega), HB.out⟩
      have b1 : (k == 1) = false := by simpa using e1
      have b3 : (k == 3) = false := by simpa using e3
      have b4 : (k == 4) = false := by simpa using e4
      have hf : folI n k x = (n, true) := by
        unfold folI
        first | (simp <;> omega) | (simp; done) | (simp [*] <;> omega) | (simp [*])
      rw [hf]
      have hb0 : Below w.heap.size w (w.alloc (.cells #[.int .i64 k, .int .u32 x, .string tg, .int .i64 st, .string tx, .int .i64 it, .int .u8 fl, .int .u32 ui, .int .u32 sz, .slice P bl cv] 34)) := (Below.refl _ w).alloc (Nat.le_refl _) _
      have HB := Lib.hid hb0
      clear hb0 hf
      go_enter Tryd.func12, Tryd.ntmps12
      go_wp2_with fail
      go_ret2
      exact ⟨by first | rfl | (simp; done) | (simp <;> omega), HB.out⟩
  · have a1 : 0 < x := by omega
    have a1d : decide (0 < x) = true := decide_eq_true a1
    have a2 : ¬ (x < 1) := by omega
    have a2d : decide (x < 1) = false := decide_eq_false a2
    have a2n : 1 ≤ x := by omega
    have a2e : decide (1 ≤ x) = true := decide_eq_true a2n
    have a3 : ¬ (x ≤ n) := by omega
    have a3d : decide (x ≤ n) = false := decide_eq_false a3
    have a4 : n < x := by omega
    have a4d : decide (n < x) = true := decide_eq_true a4
    have a5 : n ≤ x := by omega
    have a5d : decide (n ≤ x) = true := decide_eq_true a5
    by_cases e1 : k = 1
    · subst e1
      have hf : folI n 1 x = (max n x, true) := by
        unfold folI
        first | (simp <;> omega) | (simp; done) | (simp [*] <;> omega) | (simp [*])
      rw [hf]
      have hb0 : Below w.heap.size w (w.alloc (.cells #[.int .i64 1, .int .u32 x, .string tg, .int .i64 st, .string tx, .int .i64 it, .int .u8 fl, .int .u32 ui, .int .u32 sz, .slice P bl cv] 34)) := (Below.refl _ w).alloc (Nat.le_refl _) _
      have HB := Lib.hid hb0
      clear hb0 hf
      go_enter Tryd.func12, Tryd.ntmps12
      go_wp2_with fail
      go_ret2
      exact ⟨by first | rfl | (simp; done) | (simp <;> omega), HB.out⟩
    by_cases e3 : k = 3
    · subst e3
      have hf : folI n 3 x = (n, false) := by
        unfold folI
        first | (simp <;> omega) | (simp; done) | (simp [*] <;> omega) | (simp [*])
      rw [hf]
      have hb0 : Below w.heap.size w (w.alloc (.cells #[.int .i64 3, .int .u32 x, .string tg, .int .i64 st, .string tx, .int .i64 it, .int .u8 fl, .int .u32 ui, .int .u32 sz, .slice P bl cv] 34)) := (Below.refl _ w).alloc (Nat.le_refl _) _
      have HB := Lib.hid hb0
      clear hb0 hf
      go_enter Tryd.func12, Tryd.ntmps12
      go_wp2_with fail
      go_ret2
      exact ⟨by first | rfl | (simp; done) | (simp <;> omega), HB.out⟩
    by_cases e4 : k = 4
    · subst e4
      have hf : folI n 4 x = (n, false) := by
        unfold folI
        first | (simp <;> omega) | (simp; done) | (simp [*] <;> omega) | (simp [*])
      rw [hf]
      have hb0 : Below w.heap.size w (w.alloc (.cells #[.int .i64 4, .int .u32 x, .string tg, .int .i64 st, .string tx, .int .i64 it, .int .u8 fl, .int .u32 ui, .int .u32 sz, .slice P bl cv] 34)) := (Below.refl _ w).alloc (Nat.le_refl _) _
      have HB := Lib.hid hb0
      clear hb0 hf
      go_enter Tryd.func12, Tryd.ntmps12
      go_wp2_with fail
      go_ret2
      exact ⟨by first | rfl | (simp; done) | (simp <;> omega), HB.out⟩
    have b1 : (k == 1) = false := by simpa using e1
    have b3 : (k == 3) = false := by simpa using e3
    have b4 : (k == 4) = false := by simpa using e4
    have hf : folI n k x = (n, true) := by
      unfold folI
      first | (simp <;> omega) | (simp; done) | (simp [*] <;> omega) | (simp [*])
    rw [hf]
    have hb0 : Below w.heap.size w (w.alloc (.cells #[.int .i64 k, .int .u32 x, .string tg, .int .i64 st, .string tx, .int .i64 it, .int .u8 fl, .int .u32 ui, .int .u32 sz, .slice P bl cv] 34)) := (Below.refl _ w).alloc (Nat.le_refl _) _
    have HB := Lib.hid hb0
    clear hb0 hf
    go_enter Tryd.func12, Tryd.ntmps12
    go_wp2_with fail
    go_ret2
    exact ⟨by first | rfl | (simp; done) | (simp <;> omega), HB.out⟩
end Go.Proofs.YtponmnabbieafaaDoor
