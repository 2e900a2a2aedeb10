/- The walks of flag.Change, and of the reference's Name, Change and List. -/
import Derived.Test.YtbbfajjbpalfeaaDoorFlag3
namespace Go.Proofs.YtbbfajjbpalfeaaDoor
open Go.RowKit

def andNot (a b : Nat) : Nat := a &&& (31 ^^^ b)
/-- Change. -/
def changeB (o : Nat) (mode : Int) (f : Nat) : Option Nat :=
  if 31 < o ∨ 31 < f then none else if mode = 0 then some f else if mode = 1 then some (o ||| f) else if mode = 2 then some (andNot o f) else none
theorem andNot_bits (a b : Nat) (ha : a < 32) (hb : b < 32) : bits .andNot .u8 (a : Int) (b : Int) = ((andNot a b : Nat) : Int) ∧ bits .andNot .i64 (a : Int) (b : Int) = ((andNot a b : Nat) : Int) ∧ andNot a b < 32 := by
  have h : ∀ a b : Fin 32, bits .andNot .u8 (a.val : Int) (b.val : Int) = ((andNot a.val b.val : Nat) : Int) ∧ bits .andNot .i64 (a.val : Int) (b.val : Int) = ((andNot a.val b.val : Nat) : Int) ∧ andNot a.val b.val < 32 := by decide +kernel
  exact h ⟨a, ha⟩ ⟨b, hb⟩
def fnV (f : FuncId) : Value := .func (.func f) #[] #[]
theorem zeroFn (w : World) : (zeroValue 46).run Tryd.prog w = .ok .nilFunc w := by kernel_rfl

def chgMap : List (Int × Value) := [(0, fnV 27), (1, fnV 28), (2, fnV 29)]

section
variable {w : World}
/-- The map of Change, and what a look into it gives. -/
theorem chg_map (w : World) (mode : Int) : ∃ w1 w2 w3, (Instr.mapUpdate 50 (.map (some w.heap.size)) (.int .i64 0) (fnV 27)).run Tryd.prog (w.alloc (.map #[] 0)) = .ok () w1 ∧
    (Instr.mapUpdate 50 (.map (some w.heap.size)) (.int .i64 1) (fnV 28)).run Tryd.prog w1 = .ok () w2 ∧
    (Instr.mapUpdate 50 (.map (some w.heap.size)) (.int .i64 2) (fnV 29)).run Tryd.prog w2 = .ok () w3 ∧ Below w.heap.size w w3 ∧
    (Instr.lookup 50 (.map (some w.heap.size)) (.int .i64 mode) true).run Tryd.prog w3 = .ok (.tuple #[(lookK chgMap mode).getD .nilFunc, .bool (lookK chgMap mode).isSome]) w3 := by
  have K := Kp.int (P := Tryd.prog) Tryd.underlying3
  have hm0 : KMap (w.alloc (.map #[] 0)) w.heap.size (Value.int .i64) ([] : List (Int × Value)) := KMap.made w
  have hb0 : Below w.heap.size w (w.alloc (.map #[] 0)) := (Below.refl _ _).alloc (Nat.le_refl _) _
  obtain ⟨w1, hr1, hm1, hg1⟩ := hm0.put K Tryd.underlying50 (0 : Int) (fnV 27) (by decide)
  obtain ⟨w2, hr2, hm2, hg2⟩ := hm1.put K Tryd.underlying50 (1 : Int) (fnV 28) rfl
  obtain ⟨w3, hr3, hm3, hg3⟩ := hm2.put K Tryd.underlying50 (2 : Int) (fnV 29) rfl
  have hb1 := hb0.grown hg1 (by rw [World.size_alloc]; omega) (fun j hj => by injection hj with hj; omega)
  have hb2 := hb1.grown hg2 hb1.size (fun j hj => by injection hj with hj; omega)
  have hb3 := hb2.grown hg3 hb2.size (fun j hj => by injection hj with hj; omega)
  have hlk := hm3.look K Tryd.underlying50 (zeroFn w3) mode
  exact ⟨w1, w2, w3, hr1, hr2, hr3, hb3, hlk⟩
end

set_option maxRecDepth 100000 in
set_option maxHeartbeats 1600000 in
theorem change_no (o f : Nat) (mode : Int) (w : World) (ho : o ≤ 31) (hf : f ≤ 31) (hl : lookK chgMap mode = none) :
    Calls Tryd.prog 17 #[.int .u8 o, .int .i64 mode, .int .u8 f] w fun e w' => e = .returned (.tuple #[.int .u8 0, .bool false]) ∧ Below w.heap.size w w' := by
  have hmm := @run_makeMap Tryd.prog
  obtain ⟨w1, w2, w3, hr1, hr2, hr3, hb3, hlk⟩ := chg_map w mode
  rw [hl] at hlk
  have HR1 := Lib.hid hr1
  have HR2 := Lib.hid hr2
  have HR3 := Lib.hid hr3
  have HB := Lib.hid hb3
  have HL := Lib.hid hlk
  clear hr1 hr2 hr3 hb3 hlk hl
  go_enter Tryd.func17, Tryd.ntmps17
  go_wp2_with (first
    | (refine wpList_insert_run rfl _ _ _ _ rfl _ (.int .i64 0) _ rfl rfl rfl _ HR1.out ?_)
    | (refine wpList_insert_run rfl _ _ _ _ rfl _ (.int .i64 1) _ rfl rfl rfl _ HR2.out ?_)
    | (refine wpList_insert_run rfl _ _ _ _ rfl _ (.int .i64 2) _ rfl rfl rfl _ HR3.out ?_)
    | (at_lookup; refine wpList_lookup_run rfl _ _ _ _ rfl _ _ _ rfl rfl _ HL.out ?_; simp only [Option.getD_none, Option.isSome_none]))
  go_ret2
  exact ⟨rfl, HB.out⟩
set_option maxRecDepth 100000 in
set_option maxHeartbeats 1600000 in
theorem change_yes (o f x : Nat) (F : FuncId) (mode : Int) (w : World) (ho : o ≤ 31) (hf : f ≤ 31) (hl : lookK chgMap mode = some (fnV F)) (hF : ∀ args w, (callFunc F args).run Tryd.prog w = .ok (.enter F args) w)
    (H : ∀ W, Calls Tryd.prog F #[.int .u8 o, .int .u8 f] W fun e w' => e = .returned (.int .u8 x) ∧ W = w') :
    Calls Tryd.prog 17 #[.int .u8 o, .int .i64 mode, .int .u8 f] w fun e w' => e = .returned (.tuple #[.int .u8 x, .bool true]) ∧ Below w.heap.size w w' := by
  have hmm := @run_makeMap Tryd.prog
  obtain ⟨w1, w2, w3, hr1, hr2, hr3, hb3, hlk⟩ := chg_map w mode
  rw [hl] at hlk
  have HR1 := Lib.hid hr1
  have HR2 := Lib.hid hr2
  have HR3 := Lib.hid hr3
  have HB := Lib.hid hb3
  have HL := Lib.hid hlk
  have HH := Lib.hid H
  clear hr1 hr2 hr3 hb3 hlk hl H
  go_enter Tryd.func17, Tryd.ntmps17
  go_wp2_with (first
    | (refine wpList_insert_run rfl _ _ _ _ rfl _ (.int .i64 0) _ rfl rfl rfl _ HR1.out ?_)
    | (refine wpList_insert_run rfl _ _ _ _ rfl _ (.int .i64 1) _ rfl rfl rfl _ HR2.out ?_)
    | (refine wpList_insert_run rfl _ _ _ _ rfl _ (.int .i64 2) _ rfl rfl rfl _ HR3.out ?_)
    | (at_lookup; refine wpList_lookup_run rfl _ _ _ _ rfl _ _ _ rfl rfl _ HL.out ?_; simp only [Option.getD_some, Option.isSome_some, fnV])
    | (refine (HH.out _).mono ?_; rintro e w4 ⟨rfl, rfl⟩))
  go_ret2
  exact ⟨rfl, HB.out⟩

set_option maxRecDepth 100000 in
theorem replace_any (o f : Nat) (w : World) : Calls Tryd.prog 27 #[.int .u8 o, .int .u8 f] w fun e w' => e = .returned (.int .u8 f) ∧ w = w' := by
  go_enter Tryd.func27, Tryd.ntmps27
  go_wp2
  go_ret
  exact ⟨rfl, rfl⟩
set_option maxRecDepth 100000 in
theorem addf_any (o f x : Nat) (h : bits .or .u8 (o : Int) (f : Int) = (x : Int)) (w : World) : Calls Tryd.prog 28 #[.int .u8 o, .int .u8 f] w fun e w' => e = .returned (.int .u8 x) ∧ w = w' := by
  go_enter Tryd.func28, Tryd.ntmps28
  go_wp2
  go_ret
  exact ⟨rfl, rfl⟩
set_option maxRecDepth 100000 in
theorem remove_any (o f x : Nat) (h : bits .andNot .u8 (o : Int) (f : Int) = (x : Int)) (w : World) : Calls Tryd.prog 29 #[.int .u8 o, .int .u8 f] w fun e w' => e = .returned (.int .u8 x) ∧ w = w' := by
  go_enter Tryd.func29, Tryd.ntmps29
  go_wp2
  go_ret
  exact ⟨rfl, rfl⟩

set_option maxRecDepth 100000 in
theorem change_any (o f : Nat) (mode : Int) (w : World) (ho : o < 256) (hf : f < 256) :
    Calls Tryd.prog 17 #[.int .u8 o, .int .i64 mode, .int .u8 f] w fun e w' => e = .returned (parV (changeB o mode f)) ∧ Below w.heap.size w w' := by
  by_cases h1 : 31 < o
  · have R : changeB o mode f = none := by unfold changeB; rw [if_pos (.inl h1)]
    rw [R, parV_none]
    clear R
    go_enter Tryd.func17, Tryd.ntmps17
    go_wp2_with fail
    go_ret2
    exact ⟨rfl, Below.refl _ _⟩
  · by_cases h2 : 31 < f
    · have R : changeB o mode f = none := by unfold changeB; rw [if_pos (.inr h2)]
      rw [R, parV_none]
      clear R
      go_enter Tryd.func17, Tryd.ntmps17
      go_wp2_with fail
      go_ret2
      exact ⟨rfl, Below.refl _ _⟩
    · have R0 : changeB o mode f = if mode = 0 then some f else if mode = 1 then some (o ||| f) else if mode = 2 then some (andNot o f) else none := by unfold changeB; rw [if_neg (by omega)]
      rw [R0]
      by_cases q0 : mode = 0
      · rw [if_pos q0, parV_some]
        exact change_yes o f f 27 mode w (by omega) (by omega) (by rw [q0]; rfl) (fun _ _ => rfl) (fun W => replace_any o f W)
      · rw [if_neg q0]
        by_cases q1 : mode = 1
        · rw [if_pos q1, parV_some]
          exact change_yes o f _ 28 mode w (by omega) (by omega) (by rw [q1]; rfl) (fun _ _ => rfl) (fun W => addf_any o f _ (or_bits o f (by omega) (by omega)).1 W)
        · rw [if_neg q1]
          by_cases q2 : mode = 2
          · rw [if_pos q2, parV_some]
            exact change_yes o f _ 29 mode w (by omega) (by omega) (by rw [q2]; rfl) (fun _ _ => rfl) (fun W => remove_any o f _ (andNot_bits o f (by omega) (by omega)).1 W)
          · rw [if_neg q2, parV_none]
            exact change_no o f mode w (by omega) (by omega) (by simp [lookK, chgMap, q0, q1, q2])
end Go.Proofs.YtbbfajjbpalfeaaDoor
