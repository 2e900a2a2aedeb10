/- The walks of the example of chapter 03, and of the laws FlagParses, FlagLists, FlagChanges, FlagUndoes. -/
import Derived.Test.YtbbfajjbpalfeaaDoorFlag7
namespace Go.Proofs.YtbbfajjbpalfeaaDoor
open Go.RowKit

set_option maxRecDepth 100000 in
theorem alive03_walk (w : World) (hS : StdA w) : Calls Tryd.prog 11 #[] w fun e w' => e = .returned (.bool true) ∧ Below w.heap.size w w' := by
  have HP := Lib.hid (parse_any ⟨#[40, 92, 115, 101, 101, 110, 41]⟩ w hS (by decide))
  rw [show parV (parseF (ByteArray.mk #[40, 92, 115, 101, 101, 110, 41]).data.toList) = .tuple #[.int .u8 8, .bool true] from by rw [show parseF (ByteArray.mk #[40, 92, 115, 101, 101, 110, 41]).data.toList = some 8 from by decide +kernel]; rfl] at HP
  have HL := Lib.hid (fun w1 (hb : Below w.heap.size w w1) => list_any 12 (by decide) w1 (hS.below hb))
  rw [show ofL (listF 12) = ⟨#[40, 92, 68, 101, 108, 101, 116, 101, 100, 32, 92, 83, 101, 101, 110, 41]⟩ from by rw [show listF 12 = [40, 92, 68, 101, 108, 101, 116, 101, 100, 32, 92, 83, 101, 101, 110, 41] from by decide +kernel]; rfl] at HL
  clear hS
  go_enter Tryd.func11, Tryd.ntmps11
  go_wp2_with fail
  refine HP.out.mono ?_
  rintro e w1 ⟨rfl, hb⟩
  have HB := Lib.hid hb
  clear hb
  go_wp2_with fail
  refine (HL.out _ HB.out).mono ?_
  rintro e w2 ⟨rfl, hb2⟩
  have HB2 := Lib.hid (HB.out.trans (hb2.mono HB.out.size))
  clear hb2
  go_wp2_with fail
  go_ret
  exact ⟨rfl, HB2.out⟩

set_option maxRecDepth 100000 in
theorem flagParses_walk (s : ByteArray) (w : World) (hs : s.size ≤ maxLen) (hS : StdA w) : Calls Tryd.prog 4 #[.string s] w fun e w' => e = .returned (.bool true) ∧ Below w.heap.size w w' := by
  unfold maxLen at hs
  by_cases h : s.size ≤ 1000
  · have HP := Lib.hid (parse_any s w hS (by omega))
    have HR := Lib.hid (fun w => rParse_any s w (by omega))
    have HA := Lib.hid (fun w1 (hb : Below w.heap.size w w1) => alive03_walk w1 (hS.below hb))
    clear hS hs
    cases hp : parseF s.data.toList with
    | none =>
      rw [hp] at HP HR
      rw [parV_none] at HP
      rw [show chgV none = -1 from rfl] at HR
      clear hp
      go_enter Tryd.func4, Tryd.ntmps4
      go_wp2_with fail
      refine HP.out.mono ?_
      rintro e w1 ⟨rfl, hb⟩
      have HB := Lib.hid hb
      clear hb
      go_wp2_with fail
      refine (HR.out _).mono ?_
      rintro e w2 ⟨rfl, hb2⟩
      have HB2 := Lib.hid (HB.out.trans (hb2.mono HB.out.size))
      clear hb2
      go_wp2_with fail
      refine (HA.out _ HB2.out).mono ?_
      rintro e w3 ⟨rfl, hb3⟩
      have HB3 := Lib.hid (HB2.out.trans (hb3.mono HB2.out.size))
      clear hb3
      go_wp2_with fail
      go_ret
      exact ⟨rfl, HB3.out⟩
    | some x =>
      have hx := parseF_lt hp
      rw [hp] at HP HR
      rw [parV_some] at HP
      rw [show chgV (some x) = (x : Int) from rfl] at HR
      clear hp
      have hge : decide (0 ≤ (x : Int)) = true := decide_eq_true (by omega)
      go_enter Tryd.func4, Tryd.ntmps4
      go_wp2_with fail
      refine HP.out.mono ?_
      rintro e w1 ⟨rfl, hb⟩
      have HB := Lib.hid hb
      clear hb
      go_wp2_with fail
      refine (HR.out _).mono ?_
      rintro e w2 ⟨rfl, hb2⟩
      have HB2 := Lib.hid (HB.out.trans (hb2.mono HB.out.size))
      clear hb2
      go_wp2_with fail
      refine (HA.out _ HB2.out).mono ?_
      rintro e w3 ⟨rfl, hb3⟩
      have HB3 := Lib.hid (HB2.out.trans (hb3.mono HB2.out.size))
      clear hb3
      go_wp2_with fail
      go_outline
      go_ret
      exact ⟨rfl, HB3.out⟩
  · have HA := Lib.hid (alive03_walk w hS)
    clear hS
    go_enter Tryd.func4, Tryd.ntmps4
    go_wp2_with fail
    refine HA.out.mono ?_
    rintro e w1 ⟨rfl, hb⟩
    have HB := Lib.hid hb
    clear hb
    go_wp2_with fail
    go_ret
    exact ⟨rfl, HB.out⟩

theorem and31 (f : Nat) (hf : f < 256) : bits .and .u8 (f : Int) 31 = ((f % 32 : Nat) : Int) := by
  have h : ∀ f : Fin 256, bits .and .u8 (f.val : Int) 31 = ((f.val % 32 : Nat) : Int) := by decide +kernel
  exact h ⟨f, hf⟩
theorem listF_len (f : Nat) : (listF f).length ≤ 60 := by
  unfold listF
  have h := joinF_len ((eachL f).map fname) 9 (fun x hx => by
    obtain ⟨y, _, rfl⟩ := List.mem_map.1 hx
    exact fname_len y)
  have h2 := eachTo_le f 5
  rw [List.length_map] at h
  have : (eachL f).length ≤ 5 := h2
  rw [List.length_cons, List.length_append, List.length_singleton]
  omega

set_option maxRecDepth 100000 in
theorem flagLists_walk (f : Nat) (w : World) (hf : f < 256) (hS : StdA w) : Calls Tryd.prog 5 #[.int .u8 f] w fun e w' => e = .returned (.bool true) ∧ Below w.heap.size w w' := by
  have HL := Lib.hid (list_any f hf w hS)
  have hlen := listF_len f
  have HP := Lib.hid (fun w1 (hb : Below w.heap.size w w1) => parse_any (ofL (listF f)) w1 (hS.below hb) (by rw [ofL_size]; omega))
  rw [ofL_data, parse_list f hf, parV_some] at HP
  have HA := Lib.hid (fun w1 (hb : Below w.heap.size w w1) => alive03_walk w1 (hS.below hb))
  have HR := Lib.hid (fun w => rList_any f hf w)
  have h31 := and31 f hf
  generalize listF f = l at *
  generalize f % 32 = y at *
  clear hS
  go_enter Tryd.func5, Tryd.ntmps5
  go_wp2_with fail
  refine HL.out.mono ?_
  rintro e w1 ⟨rfl, hb⟩
  have HB := Lib.hid hb
  clear hb
  go_wp2_with fail
  refine (HP.out _ HB.out).mono ?_
  rintro e w2 ⟨rfl, hb2⟩
  have HB2 := Lib.hid (HB.out.trans (hb2.mono HB.out.size))
  clear hb2
  go_wp2_with fail
  refine (HA.out _ HB2.out).mono ?_
  rintro e w3 ⟨rfl, hb3⟩
  have HB3 := Lib.hid (HB2.out.trans (hb3.mono HB2.out.size))
  clear hb3
  go_wp2_with fail
  refine (HR.out _).mono ?_
  rintro e w4 ⟨rfl, rfl⟩
  go_wp2_with fail
  go_ret
  exact ⟨rfl, HB3.out⟩

set_option maxRecDepth 100000 in
theorem flagChanges_walk (o : Nat) (mode : Int) (f : Nat) (w : World) (ho : o < 256) (hf : f < 256) (hS : StdA w) :
    Calls Tryd.prog 7 #[.int .u8 o, .int .i64 mode, .int .u8 f] w fun e w' => e = .returned (.bool true) ∧ Below w.heap.size w w' := by
  have HC := Lib.hid (change_any o f mode w ho hf)
  have HR := Lib.hid (fun w => rChange_any o f mode w ho hf)
  have HA := Lib.hid (fun w1 (hb : Below w.heap.size w w1) => alive03_walk w1 (hS.below hb))
  clear hS
  cases hp : changeB o mode f with
  | none =>
    rw [hp] at HC HR
    rw [parV_none] at HC
    rw [show chgV none = -1 from rfl] at HR
    clear hp
    go_enter Tryd.func7, Tryd.ntmps7
    go_wp2_with fail
    refine HC.out.mono ?_
    rintro e w1 ⟨rfl, hb⟩
    have HB := Lib.hid hb
    clear hb
    go_wp2_with fail
    refine (HR.out _).mono ?_
    rintro e w2 ⟨rfl, rfl⟩
    go_wp2_with fail
    refine (HA.out _ HB.out).mono ?_
    rintro e w3 ⟨rfl, hb3⟩
    have HB3 := Lib.hid (HB.out.trans (hb3.mono HB.out.size))
    clear hb3
    go_wp2_with fail
    go_ret
    exact ⟨rfl, HB3.out⟩
  | some x =>
    rw [hp] at HC HR
    rw [parV_some] at HC
    rw [show chgV (some x) = (x : Int) from rfl] at HR
    have hx : x < 32 := by
      unfold changeB at hp
      split at hp
      · cases hp
      · rename_i h1
        have h2 := or_bits o f (by omega) (by omega)
        have h3 := andNot_bits o f (by omega) (by omega)
        split at hp
        · injection hp with hp; omega
        · split at hp
          · injection hp with hp; omega
          · split at hp
            · injection hp with hp; omega
            · cases hp
    clear hp
    have hge : decide (0 ≤ (x : Int)) = true := decide_eq_true (by omega)
    go_enter Tryd.func7, Tryd.ntmps7
    go_wp2_with fail
    refine HC.out.mono ?_
    rintro e w1 ⟨rfl, hb⟩
    have HB := Lib.hid hb
    clear hb
    go_wp2_with fail
    refine (HR.out _).mono ?_
    rintro e w2 ⟨rfl, rfl⟩
    go_wp2_with fail
    refine (HA.out _ HB.out).mono ?_
    rintro e w3 ⟨rfl, hb3⟩
    have HB3 := Lib.hid (HB.out.trans (hb3.mono HB.out.size))
    clear hb3
    go_wp2_with fail
    go_ret
    exact ⟨rfl, HB3.out⟩

theorem undo_facts (a b : Nat) (ha : a < 32) (hb : b < 32) : changeB a 1 b = some (a ||| b) ∧ a ||| b < 32 ∧ changeB (a ||| b) 1 b = some (a ||| b) ∧ changeB (a ||| b) 2 b = some (andNot a b) ∧ andNot a b < 32 ∧ changeB (andNot a b) 2 b = some (andNot a b) ∧ bits .andNot .u8 (a : Int) (b : Int) = ((andNot a b : Nat) : Int) := by
  have h : ∀ a b : Fin 32, changeB a.val 1 b.val = some (a.val ||| b.val) ∧ a.val ||| b.val < 32 ∧ changeB (a.val ||| b.val) 1 b.val = some (a.val ||| b.val) ∧ changeB (a.val ||| b.val) 2 b.val = some (andNot a.val b.val) ∧ andNot a.val b.val < 32 ∧ changeB (andNot a.val b.val) 2 b.val = some (andNot a.val b.val) ∧ bits .andNot .u8 (a.val : Int) (b.val : Int) = ((andNot a.val b.val : Nat) : Int) := by decide +kernel
  exact h ⟨a, ha⟩ ⟨b, hb⟩
set_option maxRecDepth 100000 in
theorem flagUndoes_walk (o f : Nat) (w : World) (ho : o < 256) (hf : f < 256) (hS : StdA w) :
    Calls Tryd.prog 8 #[.int .u8 o, .int .u8 f] w fun e w' => e = .returned (.bool true) ∧ Below w.heap.size w w' := by
  have h1 := and31 o ho
  have h2 := and31 f hf
  have ha : o % 32 < 32 := by omega
  have hb : f % 32 < 32 := by omega
  generalize o % 32 = a at *
  generalize f % 32 = b at *
  obtain ⟨u1, u2, u3, u4, u5, u6, u7⟩ := undo_facts a b ha hb
  generalize a ||| b = x at *
  generalize andNot a b = z at *
  have C1 := Lib.hid (fun w => change_any a b 1 w (by omega) (by omega))
  have C2 := Lib.hid (fun w => change_any x b 1 w (by omega) (by omega))
  have C3 := Lib.hid (fun w => change_any x b 2 w (by omega) (by omega))
  have C4 := Lib.hid (fun w => change_any z b 2 w (by omega) (by omega))
  rw [u1, parV_some] at C1
  rw [u3, parV_some] at C2
  rw [u4, parV_some] at C3
  rw [u6, parV_some] at C4
  have HA := Lib.hid (fun w1 (hb : Below w.heap.size w w1) => alive03_walk w1 (hS.below hb))
  clear u1 u3 u4 u6 hS
  go_enter Tryd.func8, Tryd.ntmps8
  go_wp2_with fail
  refine (C1.out _).mono ?_
  rintro e w1 ⟨rfl, hb1⟩
  have HB1 := Lib.hid hb1
  clear hb1
  go_wp2_with fail
  refine (C2.out _).mono ?_
  rintro e w2 ⟨rfl, hb2⟩
  have HB2 := Lib.hid (HB1.out.trans (hb2.mono HB1.out.size))
  clear hb2
  go_wp2_with fail
  refine (C3.out _).mono ?_
  rintro e w3 ⟨rfl, hb3⟩
  have HB3 := Lib.hid (HB2.out.trans (hb3.mono HB2.out.size))
  clear hb3
  go_wp2_with fail
  refine (C4.out _).mono ?_
  rintro e w4 ⟨rfl, hb4⟩
  have HB4 := Lib.hid (HB3.out.trans (hb4.mono HB3.out.size))
  clear hb4
  go_wp2_with fail
  refine (HA.out _ HB4.out).mono ?_
  rintro e w5 ⟨rfl, hb5⟩
  have HB5 := Lib.hid (HB4.out.trans (hb5.mono HB4.out.size))
  clear hb5
  go_wp2_with fail
  go_ret
  exact ⟨rfl, HB5.out⟩
end Go.Proofs.YtbbfajjbpalfeaaDoor
