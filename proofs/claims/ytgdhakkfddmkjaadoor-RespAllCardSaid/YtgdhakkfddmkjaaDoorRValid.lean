/- The walk of the reference's Valid. -/
import Derived.Test.YtgdhakkfddmkjaaDoorJ11
set_option linter.unusedVariables false
set_option linter.unusedSimpArgs false
namespace Go.Proofs.YtgdhakkfddmkjaaDoor
open Go.RowKit

set_option maxRecDepth 100000 in
set_option maxHeartbeats 1600000 in
theorem rValid_1 (n st it fl ui sz : Int) (tg tx : ByteArray) (P : Option Addr) (bl c : Nat) (w : World) (res : Bool) (hsm : ∀ W, Below w.heap.size w W → Calls Tryd.prog 15 #[.agg #[.int .i64 1, .int .u32 n, .string tg, .int .i64 st, .string tx, .int .i64 it, .int .u8 fl, .int .u32 ui, .int .u32 sz, .slice P bl c], .agg #[.int .i64 1, .int .u32 n, .string ⟨#[]⟩, .int .i64 0, .string ⟨#[]⟩, .int .i64 0, .int .u8 0, .int .u32 0, .int .u32 0, .slice none 0 0]] W fun e w' => e = .returned (.bool res) ∧ Below W.heap.size W w') :
    Calls Tryd.prog 12 #[.agg #[.int .i64 1, .int .u32 n, .string tg, .int .i64 st, .string tx, .int .i64 it, .int .u8 fl, .int .u32 ui, .int .u32 sz, .slice P bl c]] w fun e w' => e = .returned (.bool res) ∧ Below w.heap.size w w' := by
  have HSM := Lib.hid hsm
  clear hsm
  go_enter Tryd.func12, Tryd.ntmps12
  go_wp2_with fail
  refine (HSM.out _ ?bel).mono ?_
  · (repeat (first | with_reducible refine Below.drew ?_ | with_reducible refine Below.setCell ?_ (by first | (simp only [World.size_alloc]; omega) | (dsimp only; omega)) _ | with_reducible refine Below.alloc ?_ (by first | exact Nat.le_refl _ | (simp only [World.size_alloc]; omega)) _))
    exact Below.refl _ _
  rintro e w1 ⟨rfl, hb⟩
  have HB : Hid (Below w.heap.size w w1) := by
    refine Lib.hid (below_call ?_ hb)
    (repeat (first | with_reducible refine Below.drew ?_ | with_reducible refine Below.setCell ?_ (by first | (simp only [World.size_alloc]; omega) | (dsimp only; omega)) _ | with_reducible refine Below.alloc ?_ (by first | exact Nat.le_refl _ | (simp only [World.size_alloc]; omega)) _))
    exact Below.refl _ _
  clear hb
  go_wp2_with fail
  go_ret
  exact ⟨rfl, HB.out⟩

set_option maxRecDepth 100000 in
set_option maxHeartbeats 1600000 in
theorem rValid_2 (n st it fl ui sz : Int) (tg tx : ByteArray) (P : Option Addr) (bl c : Nat) (w : World) (res : Bool) (hsm : ∀ W, Below w.heap.size w W → Calls Tryd.prog 15 #[.agg #[.int .i64 2, .int .u32 n, .string tg, .int .i64 st, .string tx, .int .i64 it, .int .u8 fl, .int .u32 ui, .int .u32 sz, .slice P bl c], .agg #[.int .i64 2, .int .u32 n, .string ⟨#[]⟩, .int .i64 0, .string ⟨#[]⟩, .int .i64 0, .int .u8 0, .int .u32 0, .int .u32 0, .slice none 0 0]] W fun e w' => e = .returned (.bool res) ∧ Below W.heap.size W w') :
    Calls Tryd.prog 12 #[.agg #[.int .i64 2, .int .u32 n, .string tg, .int .i64 st, .string tx, .int .i64 it, .int .u8 fl, .int .u32 ui, .int .u32 sz, .slice P bl c]] w fun e w' => e = .returned (.bool res) ∧ Below w.heap.size w w' := by
  have HSM := Lib.hid hsm
  clear hsm
  go_enter Tryd.func12, Tryd.ntmps12
  go_wp2_with fail
  refine (HSM.out _ ?bel).mono ?_
  · (repeat (first | with_reducible refine Below.drew ?_ | with_reducible refine Below.setCell ?_ (by first | (simp only [World.size_alloc]; omega) | (dsimp only; omega)) _ | with_reducible refine Below.alloc ?_ (by first | exact Nat.le_refl _ | (simp only [World.size_alloc]; omega)) _))
    exact Below.refl _ _
  rintro e w1 ⟨rfl, hb⟩
  have HB : Hid (Below w.heap.size w w1) := by
    refine Lib.hid (below_call ?_ hb)
    (repeat (first | with_reducible refine Below.drew ?_ | with_reducible refine Below.setCell ?_ (by first | (simp only [World.size_alloc]; omega) | (dsimp only; omega)) _ | with_reducible refine Below.alloc ?_ (by first | exact Nat.le_refl _ | (simp only [World.size_alloc]; omega)) _))
    exact Below.refl _ _
  clear hb
  go_wp2_with fail
  go_ret
  exact ⟨rfl, HB.out⟩

set_option maxRecDepth 100000 in
set_option maxHeartbeats 1600000 in
theorem rValid_3 (n st it fl ui sz : Int) (tg tx : ByteArray) (P : Option Addr) (bl c : Nat) (w : World) (res : Bool) (hsm : ∀ W, Below w.heap.size w W → Calls Tryd.prog 15 #[.agg #[.int .i64 3, .int .u32 n, .string tg, .int .i64 st, .string tx, .int .i64 it, .int .u8 fl, .int .u32 ui, .int .u32 sz, .slice P bl c], .agg #[.int .i64 3, .int .u32 n, .string ⟨#[]⟩, .int .i64 0, .string ⟨#[]⟩, .int .i64 0, .int .u8 0, .int .u32 0, .int .u32 0, .slice none 0 0]] W fun e w' => e = .returned (.bool res) ∧ Below W.heap.size W w') :
    Calls Tryd.prog 12 #[.agg #[.int .i64 3, .int .u32 n, .string tg, .int .i64 st, .string tx, .int .i64 it, .int .u8 fl, .int .u32 ui, .int .u32 sz, .slice P bl c]] w fun e w' => e = .returned (.bool res) ∧ Below w.heap.size w w' := by
  have HSM := Lib.hid hsm
  clear hsm
  go_enter Tryd.func12, Tryd.ntmps12
  go_wp2_with fail
  refine (HSM.out _ ?bel).mono ?_
  · (repeat (first | with_reducible refine Below.drew ?_ | with_reducible refine Below.setCell ?_ (by first | (simp only [World.size_alloc]; omega) | (dsimp only; omega)) _ | with_reducible refine Below.alloc ?_ (by first | exact Nat.le_refl _ | (simp only [World.size_alloc]; omega)) _))
    exact Below.refl _ _
  rintro e w1 ⟨rfl, hb⟩
  have HB : Hid (Below w.heap.size w w1) := by
    refine Lib.hid (below_call ?_ hb)
    (repeat (first | with_reducible refine Below.drew ?_ | with_reducible refine Below.setCell ?_ (by first | (simp only [World.size_alloc]; omega) | (dsimp only; omega)) _ | with_reducible refine Below.alloc ?_ (by first | exact Nat.le_refl _ | (simp only [World.size_alloc]; omega)) _))
    exact Below.refl _ _
  clear hb
  go_wp2_with fail
  go_ret
  exact ⟨rfl, HB.out⟩

set_option maxRecDepth 100000 in
set_option maxHeartbeats 1600000 in
theorem rValid_5 (n st it fl ui sz : Int) (tg tx : ByteArray) (P : Option Addr) (bl c : Nat) (w : World) (res : Bool) (hsm : ∀ W, Below w.heap.size w W → Calls Tryd.prog 15 #[.agg #[.int .i64 5, .int .u32 n, .string tg, .int .i64 st, .string tx, .int .i64 it, .int .u8 fl, .int .u32 ui, .int .u32 sz, .slice P bl c], .agg #[.int .i64 5, .int .u32 0, .string ⟨#[]⟩, .int .i64 0, .string ⟨#[]⟩, .int .i64 0, .int .u8 0, .int .u32 0, .int .u32 0, .slice none 0 0]] W fun e w' => e = .returned (.bool res) ∧ Below W.heap.size W w') :
    Calls Tryd.prog 12 #[.agg #[.int .i64 5, .int .u32 n, .string tg, .int .i64 st, .string tx, .int .i64 it, .int .u8 fl, .int .u32 ui, .int .u32 sz, .slice P bl c]] w fun e w' => e = .returned (.bool res) ∧ Below w.heap.size w w' := by
  have HSM := Lib.hid hsm
  clear hsm
  go_enter Tryd.func12, Tryd.ntmps12
  go_wp2_with fail
  refine (HSM.out _ ?bel).mono ?_
  · (repeat (first | with_reducible refine Below.drew ?_ | with_reducible refine Below.setCell ?_ (by first | (simp only [World.size_alloc]; omega) | (dsimp only; omega)) _ | with_reducible refine Below.alloc ?_ (by first | exact Nat.le_refl _ | (simp only [World.size_alloc]; omega)) _))
    exact Below.refl _ _
  rintro e w1 ⟨rfl, hb⟩
  have HB : Hid (Below w.heap.size w w1) := by
    refine Lib.hid (below_call ?_ hb)
    (repeat (first | with_reducible refine Below.drew ?_ | with_reducible refine Below.setCell ?_ (by first | (simp only [World.size_alloc]; omega) | (dsimp only; omega)) _ | with_reducible refine Below.alloc ?_ (by first | exact Nat.le_refl _ | (simp only [World.size_alloc]; omega)) _))
    exact Below.refl _ _
  clear hb
  go_wp2_with fail
  go_ret
  exact ⟨rfl, HB.out⟩

set_option maxRecDepth 100000 in
set_option maxHeartbeats 1600000 in
theorem rValid_6 (n st it fl ui sz : Int) (tg tx : ByteArray) (P : Option Addr) (bl c : Nat) (w : World) (res : Bool) (ok : Bool) (hx : ∀ W, Calls Tryd.prog 27 #[.string tx] W fun e w' => e = .returned (.bool ok) ∧ w' = W) (hsm : ∀ W, Below w.heap.size w W → Calls Tryd.prog 15 #[.agg #[.int .i64 6, .int .u32 n, .string tg, .int .i64 st, .string tx, .int .i64 it, .int .u8 fl, .int .u32 ui, .int .u32 sz, .slice P bl c], .agg #[.int .i64 6, .int .u32 0, .string ⟨#[]⟩, .int .i64 0, .string tx, .int .i64 0, .int .u8 0, .int .u32 0, .int .u32 0, .slice none 0 0]] W fun e w' => e = .returned (.bool res) ∧ Below W.heap.size W w') :
    Calls Tryd.prog 12 #[.agg #[.int .i64 6, .int .u32 n, .string tg, .int .i64 st, .string tx, .int .i64 it, .int .u8 fl, .int .u32 ui, .int .u32 sz, .slice P bl c]] w fun e w' => e = .returned (.bool (ok && res)) ∧ Below w.heap.size w w' := by
  have HSM := Lib.hid hsm
  have HX := Lib.hid hx
  clear hsm hx
  cases ok with
  | false =>
    go_enter Tryd.func12, Tryd.ntmps12
    go_wp2_with fail
    refine (HX.out _).mono ?_
    rintro e w1 ⟨rfl, rfl⟩
    go_wp2_with fail
    go_ret
    refine ⟨rfl, ?_⟩
    (repeat (first | with_reducible refine Below.drew ?_ | with_reducible refine Below.setCell ?_ (by first | (simp only [World.size_alloc]; omega) | (dsimp only; omega)) _ | with_reducible refine Below.alloc ?_ (by first | exact Nat.le_refl _ | (simp only [World.size_alloc]; omega)) _))
    exact Below.refl _ _
  | true =>
  go_enter Tryd.func12, Tryd.ntmps12
  go_wp2_with fail
  refine (HX.out _).mono ?_
  rintro e w1 ⟨rfl, rfl⟩
  go_wp2_with fail
  refine (HSM.out _ ?bel).mono ?_
  · (repeat (first | with_reducible refine Below.drew ?_ | with_reducible refine Below.setCell ?_ (by first | (simp only [World.size_alloc]; omega) | (dsimp only; omega)) _ | with_reducible refine Below.alloc ?_ (by first | exact Nat.le_refl _ | (simp only [World.size_alloc]; omega)) _))
    exact Below.refl _ _
  rintro e w1 ⟨rfl, hb⟩
  have HB : Hid (Below w.heap.size w w1) := by
    refine Lib.hid (below_call ?_ hb)
    (repeat (first | with_reducible refine Below.drew ?_ | with_reducible refine Below.setCell ?_ (by first | (simp only [World.size_alloc]; omega) | (dsimp only; omega)) _ | with_reducible refine Below.alloc ?_ (by first | exact Nat.le_refl _ | (simp only [World.size_alloc]; omega)) _))
    exact Below.refl _ _
  clear hb
  go_wp2_with fail
  go_ret
  exact ⟨rfl, HB.out⟩

set_option maxRecDepth 100000 in
set_option maxHeartbeats 1600000 in
theorem rValid_7 (n st it fl ui sz : Int) (tg tx : ByteArray) (P : Option Addr) (bl c : Nat) (w : World) (res : Bool) (ok : Bool) (hx : ∀ W, Calls Tryd.prog 27 #[.string tx] W fun e w' => e = .returned (.bool ok) ∧ w' = W) (hsm : ∀ W, Below w.heap.size w W → Calls Tryd.prog 15 #[.agg #[.int .i64 7, .int .u32 n, .string tg, .int .i64 st, .string tx, .int .i64 it, .int .u8 fl, .int .u32 ui, .int .u32 sz, .slice P bl c], .agg #[.int .i64 7, .int .u32 0, .string ⟨#[]⟩, .int .i64 0, .string tx, .int .i64 0, .int .u8 0, .int .u32 0, .int .u32 0, .slice none 0 0]] W fun e w' => e = .returned (.bool res) ∧ Below W.heap.size W w') :
    Calls Tryd.prog 12 #[.agg #[.int .i64 7, .int .u32 n, .string tg, .int .i64 st, .string tx, .int .i64 it, .int .u8 fl, .int .u32 ui, .int .u32 sz, .slice P bl c]] w fun e w' => e = .returned (.bool (ok && res)) ∧ Below w.heap.size w w' := by
  have HSM := Lib.hid hsm
  have HX := Lib.hid hx
  clear hsm hx
  cases ok with
  | false =>
    go_enter Tryd.func12, Tryd.ntmps12
    go_wp2_with fail
    refine (HX.out _).mono ?_
    rintro e w1 ⟨rfl, rfl⟩
    go_wp2_with fail
    go_ret
    refine ⟨rfl, ?_⟩
    (repeat (first | with_reducible refine Below.drew ?_ | with_reducible refine Below.setCell ?_ (by first | (simp only [World.size_alloc]; omega) | (dsimp only; omega)) _ | with_reducible refine Below.alloc ?_ (by first | exact Nat.le_refl _ | (simp only [World.size_alloc]; omega)) _))
    exact Below.refl _ _
  | true =>
  go_enter Tryd.func12, Tryd.ntmps12
  go_wp2_with fail
  refine (HX.out _).mono ?_
  rintro e w1 ⟨rfl, rfl⟩
  go_wp2_with fail
  refine (HSM.out _ ?bel).mono ?_
  · (repeat (first | with_reducible refine Below.drew ?_ | with_reducible refine Below.setCell ?_ (by first | (simp only [World.size_alloc]; omega) | (dsimp only; omega)) _ | with_reducible refine Below.alloc ?_ (by first | exact Nat.le_refl _ | (simp only [World.size_alloc]; omega)) _))
    exact Below.refl _ _
  rintro e w1 ⟨rfl, hb⟩
  have HB : Hid (Below w.heap.size w w1) := by
    refine Lib.hid (below_call ?_ hb)
    (repeat (first | with_reducible refine Below.drew ?_ | with_reducible refine Below.setCell ?_ (by first | (simp only [World.size_alloc]; omega) | (dsimp only; omega)) _ | with_reducible refine Below.alloc ?_ (by first | exact Nat.le_refl _ | (simp only [World.size_alloc]; omega)) _))
    exact Below.refl _ _
  clear hb
  go_wp2_with fail
  go_ret
  exact ⟨rfl, HB.out⟩

set_option maxRecDepth 100000 in
set_option maxHeartbeats 1600000 in
theorem rValid_8 (n st it fl ui sz : Int) (tg tx : ByteArray) (P : Option Addr) (bl c : Nat) (w : World) (res : Bool) (ok : Bool) (hx : ∀ W, Calls Tryd.prog 27 #[.string tx] W fun e w' => e = .returned (.bool ok) ∧ w' = W) (hsm : ∀ W, Below w.heap.size w W → Calls Tryd.prog 15 #[.agg #[.int .i64 8, .int .u32 n, .string tg, .int .i64 st, .string tx, .int .i64 it, .int .u8 fl, .int .u32 ui, .int .u32 sz, .slice P bl c], .agg #[.int .i64 8, .int .u32 0, .string ⟨#[]⟩, .int .i64 0, .string tx, .int .i64 0, .int .u8 0, .int .u32 0, .int .u32 0, .slice none 0 0]] W fun e w' => e = .returned (.bool res) ∧ Below W.heap.size W w') :
    Calls Tryd.prog 12 #[.agg #[.int .i64 8, .int .u32 n, .string tg, .int .i64 st, .string tx, .int .i64 it, .int .u8 fl, .int .u32 ui, .int .u32 sz, .slice P bl c]] w fun e w' => e = .returned (.bool (ok && res)) ∧ Below w.heap.size w w' := by
  have HSM := Lib.hid hsm
  have HX := Lib.hid hx
  clear hsm hx
  cases ok with
  | false =>
    go_enter Tryd.func12, Tryd.ntmps12
    go_wp2_with fail
    refine (HX.out _).mono ?_
    rintro e w1 ⟨rfl, rfl⟩
    go_wp2_with fail
    go_ret
    refine ⟨rfl, ?_⟩
    (repeat (first | with_reducible refine Below.drew ?_ | with_reducible refine Below.setCell ?_ (by first | (simp only [World.size_alloc]; omega) | (dsimp only; omega)) _ | with_reducible refine Below.alloc ?_ (by first | exact Nat.le_refl _ | (simp only [World.size_alloc]; omega)) _))
    exact Below.refl _ _
  | true =>
  go_enter Tryd.func12, Tryd.ntmps12
  go_wp2_with fail
  refine (HX.out _).mono ?_
  rintro e w1 ⟨rfl, rfl⟩
  go_wp2_with fail
  refine (HSM.out _ ?bel).mono ?_
  · (repeat (first | with_reducible refine Below.drew ?_ | with_reducible refine Below.setCell ?_ (by first | (simp only [World.size_alloc]; omega) | (dsimp only; omega)) _ | with_reducible refine Below.alloc ?_ (by first | exact Nat.le_refl _ | (simp only [World.size_alloc]; omega)) _))
    exact Below.refl _ _
  rintro e w1 ⟨rfl, hb⟩
  have HB : Hid (Below w.heap.size w w1) := by
    refine Lib.hid (below_call ?_ hb)
    (repeat (first | with_reducible refine Below.drew ?_ | with_reducible refine Below.setCell ?_ (by first | (simp only [World.size_alloc]; omega) | (dsimp only; omega)) _ | with_reducible refine Below.alloc ?_ (by first | exact Nat.le_refl _ | (simp only [World.size_alloc]; omega)) _))
    exact Below.refl _ _
  clear hb
  go_wp2_with fail
  go_ret
  exact ⟨rfl, HB.out⟩

set_option maxRecDepth 100000 in
set_option maxHeartbeats 1600000 in
theorem rValid_10 (n st it fl ui sz : Int) (tg tx : ByteArray) (P : Option Addr) (bl c : Nat) (w : World) (res : Bool) (ok : Bool) (hx : ∀ W, Calls Tryd.prog 27 #[.string tx] W fun e w' => e = .returned (.bool ok) ∧ w' = W) (hsm : ∀ W, Below w.heap.size w W → Calls Tryd.prog 15 #[.agg #[.int .i64 10, .int .u32 n, .string tg, .int .i64 st, .string tx, .int .i64 it, .int .u8 fl, .int .u32 ui, .int .u32 sz, .slice P bl c], .agg #[.int .i64 10, .int .u32 0, .string ⟨#[]⟩, .int .i64 0, .string tx, .int .i64 0, .int .u8 0, .int .u32 0, .int .u32 0, .slice none 0 0]] W fun e w' => e = .returned (.bool res) ∧ Below W.heap.size W w') :
    Calls Tryd.prog 12 #[.agg #[.int .i64 10, .int .u32 n, .string tg, .int .i64 st, .string tx, .int .i64 it, .int .u8 fl, .int .u32 ui, .int .u32 sz, .slice P bl c]] w fun e w' => e = .returned (.bool (ok && res)) ∧ Below w.heap.size w w' := by
  have HSM := Lib.hid hsm
  have HX := Lib.hid hx
  clear hsm hx
  cases ok with
  | false =>
    go_enter Tryd.func12, Tryd.ntmps12
    go_wp2_with fail
    refine (HX.out _).mono ?_
    rintro e w1 ⟨rfl, rfl⟩
    go_wp2_with fail
    go_ret
    refine ⟨rfl, ?_⟩
    (repeat (first | with_reducible refine Below.drew ?_ | with_reducible refine Below.setCell ?_ (by first | (simp only [World.size_alloc]; omega) | (dsimp only; omega)) _ | with_reducible refine Below.alloc ?_ (by first | exact Nat.le_refl _ | (simp only [World.size_alloc]; omega)) _))
    exact Below.refl _ _
  | true =>
  go_enter Tryd.func12, Tryd.ntmps12
  go_wp2_with fail
  refine (HX.out _).mono ?_
  rintro e w1 ⟨rfl, rfl⟩
  go_wp2_with fail
  refine (HSM.out _ ?bel).mono ?_
  · (repeat (first | with_reducible refine Below.drew ?_ | with_reducible refine Below.setCell ?_ (by first | (simp only [World.size_alloc]; omega) | (dsimp only; omega)) _ | with_reducible refine Below.alloc ?_ (by first | exact Nat.le_refl _ | (simp only [World.size_alloc]; omega)) _))
    exact Below.refl _ _
  rintro e w1 ⟨rfl, hb⟩
  have HB : Hid (Below w.heap.size w w1) := by
    refine Lib.hid (below_call ?_ hb)
    (repeat (first | with_reducible refine Below.drew ?_ | with_reducible refine Below.setCell ?_ (by first | (simp only [World.size_alloc]; omega) | (dsimp only; omega)) _ | with_reducible refine Below.alloc ?_ (by first | exact Nat.le_refl _ | (simp only [World.size_alloc]; omega)) _))
    exact Below.refl _ _
  clear hb
  go_wp2_with fail
  go_ret
  exact ⟨rfl, HB.out⟩

set_option maxRecDepth 100000 in
set_option maxHeartbeats 3200000 in
theorem rValid_9 (n st it fl ui sz : Int) (tg tx : ByteArray) (P : Option Addr) (bl c : Nat) (w : World) (res : Bool) (okt okx : Bool) (ht : ∀ W, Calls Tryd.prog 28 #[.string tg] W fun e w' => e = .returned (.bool okt) ∧ w' = W) (hx : ∀ W, Calls Tryd.prog 27 #[.string tx] W fun e w' => e = .returned (.bool okx) ∧ w' = W) (hsm : ∀ W, Below w.heap.size w W → Calls Tryd.prog 15 #[.agg #[.int .i64 9, .int .u32 n, .string tg, .int .i64 st, .string tx, .int .i64 it, .int .u8 fl, .int .u32 ui, .int .u32 sz, .slice P bl c], .agg #[.int .i64 9, .int .u32 0, .string tg, .int .i64 st, .string tx, .int .i64 0, .int .u8 0, .int .u32 0, .int .u32 0, .slice none 0 0]] W fun e w' => e = .returned (.bool res) ∧ Below W.heap.size W w') :
    Calls Tryd.prog 12 #[.agg #[.int .i64 9, .int .u32 n, .string tg, .int .i64 st, .string tx, .int .i64 it, .int .u8 fl, .int .u32 ui, .int .u32 sz, .slice P bl c]] w fun e w' => e = .returned (.bool ((okt && okx && decide (0 ≤ st) && decide (st ≤ 2)) && res)) ∧ Below w.heap.size w w' := by
  have HSM := Lib.hid hsm
  have HX := Lib.hid hx
  have HT := Lib.hid ht
  clear hsm hx ht
  cases okt with
  | false =>
    go_enter Tryd.func12, Tryd.ntmps12
    go_wp2_with fail
    refine (HT.out _).mono ?_
    rintro e w1 ⟨rfl, rfl⟩
    go_wp2_with fail
    go_ret
    refine ⟨rfl, ?_⟩
    (repeat (first | with_reducible refine Below.drew ?_ | with_reducible refine Below.setCell ?_ (by first | (simp only [World.size_alloc]; omega) | (dsimp only; omega)) _ | with_reducible refine Below.alloc ?_ (by first | exact Nat.le_refl _ | (simp only [World.size_alloc]; omega)) _))
    exact Below.refl _ _
  | true =>
  cases okx with
  | false =>
    go_enter Tryd.func12, Tryd.ntmps12
    go_wp2_with fail
    refine (HT.out _).mono ?_
    rintro e w1 ⟨rfl, rfl⟩
    go_wp2_with fail
    refine (HX.out _).mono ?_
    rintro e w1 ⟨rfl, rfl⟩
    go_wp2_with fail
    go_ret
    refine ⟨rfl, ?_⟩
    (repeat (first | with_reducible refine Below.drew ?_ | with_reducible refine Below.setCell ?_ (by first | (simp only [World.size_alloc]; omega) | (dsimp only; omega)) _ | with_reducible refine Below.alloc ?_ (by first | exact Nat.le_refl _ | (simp only [World.size_alloc]; omega)) _))
    exact Below.refl _ _
  | true =>
  by_cases h0 : 0 ≤ st
  rotate_left
  · rw [decide_eq_false h0]
    have h0' : decide (0 ≤ st) = false := decide_eq_false h0
    go_enter Tryd.func12, Tryd.ntmps12
    go_wp2_with fail
    refine (HT.out _).mono ?_
    rintro e w1 ⟨rfl, rfl⟩
    go_wp2_with fail
    refine (HX.out _).mono ?_
    rintro e w1 ⟨rfl, rfl⟩
    go_wp2_with fail
    go_ret
    refine ⟨rfl, ?_⟩
    (repeat (first | with_reducible refine Below.drew ?_ | with_reducible refine Below.setCell ?_ (by first | (simp only [World.size_alloc]; omega) | (dsimp only; omega)) _ | with_reducible refine Below.alloc ?_ (by first | exact Nat.le_refl _ | (simp only [World.size_alloc]; omega)) _))
    exact Below.refl _ _
  rw [decide_eq_true h0]
  by_cases h2 : st ≤ 2
  rotate_left
  · rw [decide_eq_false h2]
    have h2' : decide (st ≤ 2) = false := decide_eq_false h2
    go_enter Tryd.func12, Tryd.ntmps12
    go_wp2_with fail
    refine (HT.out _).mono ?_
    rintro e w1 ⟨rfl, rfl⟩
    go_wp2_with fail
    refine (HX.out _).mono ?_
    rintro e w1 ⟨rfl, rfl⟩
    go_wp2_with fail
    go_ret
    refine ⟨rfl, ?_⟩
    (repeat (first | with_reducible refine Below.drew ?_ | with_reducible refine Below.setCell ?_ (by first | (simp only [World.size_alloc]; omega) | (dsimp only; omega)) _ | with_reducible refine Below.alloc ?_ (by first | exact Nat.le_refl _ | (simp only [World.size_alloc]; omega)) _))
    exact Below.refl _ _
  rw [decide_eq_true h2]
  go_enter Tryd.func12, Tryd.ntmps12
  go_wp2_with fail
  refine (HT.out _).mono ?_
  rintro e w1 ⟨rfl, rfl⟩
  go_wp2_with fail
  refine (HX.out _).mono ?_
  rintro e w1 ⟨rfl, rfl⟩
  go_wp2_with fail
  refine (HSM.out _ ?bel).mono ?_
  · (repeat (first | with_reducible refine Below.drew ?_ | with_reducible refine Below.setCell ?_ (by first | (simp only [World.size_alloc]; omega) | (dsimp only; omega)) _ | with_reducible refine Below.alloc ?_ (by first | exact Nat.le_refl _ | (simp only [World.size_alloc]; omega)) _))
    exact Below.refl _ _
  rintro e w1 ⟨rfl, hb⟩
  have HB : Hid (Below w.heap.size w w1) := by
    refine Lib.hid (below_call ?_ hb)
    (repeat (first | with_reducible refine Below.drew ?_ | with_reducible refine Below.setCell ?_ (by first | (simp only [World.size_alloc]; omega) | (dsimp only; omega)) _ | with_reducible refine Below.alloc ?_ (by first | exact Nat.le_refl _ | (simp only [World.size_alloc]; omega)) _))
    exact Below.refl _ _
  clear hb
  go_wp2_with fail
  go_ret
  exact ⟨rfl, HB.out⟩

/-- What ok says at a Fetched. -/
def okV (it fl : Int) (bl : Nat) : Bool := decide (1 ≤ it) && (decide (it ≤ 31) && ((bits .and .i64 it 8 == 0) && (decide (fl ≤ 31) && decide ((bl : Int) ≤ 65536))))
set_option maxRecDepth 100000 in
set_option maxHeartbeats 6400000 in
theorem rValid_4 (n st it fl ui sz : Int) (tg tx : ByteArray) (P : Option Addr) (bl c : Nat) (w : World) (res : Bool) (b1 b2 b4 b16 : Bool) (h1 : (bits .and .i64 it 1 != 0) = b1) (h2 : (bits .and .i64 it 2 != 0) = b2) (h4 : (bits .and .i64 it 4 != 0) = b4) (h16 : (bits .and .i64 it 16 != 0) = b16) (hsm : ∀ W, Below w.heap.size w W → Calls Tryd.prog 15 #[.agg #[.int .i64 4, .int .u32 n, .string tg, .int .i64 st, .string tx, .int .i64 it, .int .u8 fl, .int .u32 ui, .int .u32 sz, .slice P bl c], .agg #[.int .i64 4, .int .u32 n, .string ⟨#[]⟩, .int .i64 0, .string ⟨#[]⟩, .int .i64 it, .int .u8 (selI b1 fl), .int .u32 (selI b2 ui), .int .u32 (selI b4 sz), .slice (selA b16 P) (selN b16 bl) (selN b16 c)]] W fun e w' => e = .returned (.bool res) ∧ Below W.heap.size W w') :
    Calls Tryd.prog 12 #[.agg #[.int .i64 4, .int .u32 n, .string tg, .int .i64 st, .string tx, .int .i64 it, .int .u8 fl, .int .u32 ui, .int .u32 sz, .slice P bl c]] w fun e w' => e = .returned (.bool (okV it fl bl && res)) ∧ Below w.heap.size w w' := by
  have HSM := Lib.hid hsm
  have Hb1 := Lib.hid h1
  have Hb2 := Lib.hid h2
  have Hb4 := Lib.hid h4
  have Hb16 := Lib.hid h16
  clear hsm h1 h2 h4 h16
  have HOK : ∀ ok, okV it fl bl = ok → Hid (okV it fl bl = ok) := fun ok h => Lib.hid h
  obtain ⟨ok, hok⟩ : ∃ ok, okV it fl bl = ok := ⟨_, rfl⟩
  rw [hok]
  have HOK := Lib.hid hok
  clear hok
  go_enter Tryd.func12, Tryd.ntmps12
  go_upto_region 12 with fail
  have HW : Hid (Below w.heap.size w ((w.alloc (.cells #[.int .i64 4, .int .u32 n, .string tg, .int .i64 st, .string tx, .int .i64 it, .int .u8 fl, .int .u32 ui, .int .u32 sz, .slice P bl c] 26)).alloc (.cells #[.int .i64 4, .int .u32 n, .string ⟨#[]⟩, .int .i64 0, .string ⟨#[]⟩, .int .i64 it, .int .u8 0, .int .u32 0, .int .u32 0, .slice none 0 0] 26)) ∧ Blk ((w.alloc (.cells #[.int .i64 4, .int .u32 n, .string tg, .int .i64 st, .string tx, .int .i64 it, .int .u8 fl, .int .u32 ui, .int .u32 sz, .slice P bl c] 26)).alloc (.cells #[.int .i64 4, .int .u32 n, .string ⟨#[]⟩, .int .i64 0, .string ⟨#[]⟩, .int .i64 it, .int .u8 0, .int .u32 0, .int .u32 0, .slice none 0 0] 26)) w.heap.size 26 #[.int .i64 4, .int .u32 n, .string tg, .int .i64 st, .string tx, .int .i64 it, .int .u8 fl, .int .u32 ui, .int .u32 sz, .slice P bl c] ∧ Blk ((w.alloc (.cells #[.int .i64 4, .int .u32 n, .string tg, .int .i64 st, .string tx, .int .i64 it, .int .u8 fl, .int .u32 ui, .int .u32 sz, .slice P bl c] 26)).alloc (.cells #[.int .i64 4, .int .u32 n, .string ⟨#[]⟩, .int .i64 0, .string ⟨#[]⟩, .int .i64 it, .int .u8 0, .int .u32 0, .int .u32 0, .slice none 0 0] 26)) (w.heap.size + 1) 26 #[.int .i64 4, .int .u32 n, .string ⟨#[]⟩, .int .i64 0, .string ⟨#[]⟩, .int .i64 it, .int .u8 0, .int .u32 0, .int .u32 0, .slice none 0 0]) := Lib.hid ⟨by
    (repeat (first | with_reducible refine Below.drew ?_ | with_reducible refine Below.setCell ?_ (by first | (simp only [World.size_alloc]; omega) | (dsimp only; omega)) _ | with_reducible refine Below.alloc ?_ (by first | exact Nat.le_refl _ | (simp only [World.size_alloc]; omega)) _))
    exact Below.refl _ _, Blk.past (Blk.made _ _ _) _, by have := Blk.made (w.alloc (.cells #[.int .i64 4, .int .u32 n, .string tg, .int .i64 st, .string tx, .int .i64 it, .int .u8 fl, .int .u32 ui, .int .u32 sz, .slice P bl c] 26)) 26 #[.int .i64 4, .int .u32 n, .string ⟨#[]⟩, .int .i64 0, .string ⟨#[]⟩, .int .i64 it, .int .u8 0, .int .u32 0, .int .u32 0, .slice none 0 0]; rw [World.size_alloc] at this; exact this⟩
  have HWx := HW
  generalize ((w.alloc (.cells #[.int .i64 4, .int .u32 n, .string tg, .int .i64 st, .string tx, .int .i64 it, .int .u8 fl, .int .u32 ui, .int .u32 sz, .slice P bl c] 26)).alloc (.cells #[.int .i64 4, .int .u32 n, .string ⟨#[]⟩, .int .i64 0, .string ⟨#[]⟩, .int .i64 it, .int .u8 0, .int .u32 0, .int .u32 0, .slice none 0 0] 26)) = w1 at *
  obtain ⟨⟨c0, c1, c2, c3, c4, c5, c6, c7, c8, c9⟩, -⟩ := Blk.ten HWx.out.2.1
  clear HWx
  go_cut [4] (fun s4 wx => s4 = .bool ok ∧ wx = w1)
  case first =>
    clear HSM HW
    by_cases h1 : 1 ≤ it
    rotate_left
    · have hd := decide_eq_false h1
      have HR : Hid (false = ok) := Lib.hid (by rw [← HOK.out, okV, hd]; rfl)
      clear h1 HOK
      go_wp2_with fail
      go_meet
      exact ⟨by rw [← HR.out], rfl⟩
    by_cases h2 : it ≤ 31
    rotate_left
    · have hd := decide_eq_false h2
      have hd1 := decide_eq_true h1
      have HR : Hid (false = ok) := Lib.hid (by rw [← HOK.out, okV, hd]; simp)
      clear h2 h1 HOK
      go_wp2_with fail
      go_meet
      exact ⟨by rw [← HR.out], rfl⟩
    cases h3 : (bits .and .i64 it 8 == 0) with
    | false =>
      have hd1 := decide_eq_true h1
      have hd2 := decide_eq_true h2
      have HR : Hid (false = ok) := Lib.hid (by rw [← HOK.out, okV, h3]; simp)
      clear h2 h1 HOK
      go_wp2_with fail
      go_meet
      exact ⟨by rw [← HR.out], rfl⟩
    | true =>
    by_cases h4 : fl ≤ 31
    rotate_left
    · have hd := decide_eq_false h4
      have hd1 := decide_eq_true h1
      have hd2 := decide_eq_true h2
      have HR : Hid (false = ok) := Lib.hid (by rw [← HOK.out, okV, hd]; simp)
      clear h2 h1 h4 HOK
      go_wp2_with fail
      go_meet
      exact ⟨by rw [← HR.out], rfl⟩
    have hd1 := decide_eq_true h1
    have hd2 := decide_eq_true h2
    have hd4 := decide_eq_true h4
    have HR : Hid (decide ((bl : Int) ≤ 65536) = ok) := Lib.hid (by rw [← HOK.out, okV, hd1, hd2, h3, hd4]; simp)
    clear h2 h1 h4 HOK
    by_cases h5 : bl ≤ 65536
    · have e1 : decide ((bl : Int) ≤ 65536) = true := decide_eq_true (by omega)
      rw [e1] at HR
      clear e1
      have h5' : (bl : Int) ≤ 65536 := by omega
      go_wp2_with fail
      go_meet
      exact ⟨by rw [← HR.out], rfl⟩
    · have e1 : decide ((bl : Int) ≤ 65536) = false := decide_eq_false (by omega)
      rw [e1] at HR
      clear e1
      have h5' : ¬ (bl : Int) ≤ 65536 := by omega
      go_wp2_with fail
      go_meet
      exact ⟨by rw [← HR.out], rfl⟩
  case rest =>
    obtain ⟨rfl, rfl⟩ := hcut
    clear HOK
    have H0 : Hid (Below w.heap.size w wc ∧ Blk wc w.heap.size 26 #[.int .i64 4, .int .u32 n, .string tg, .int .i64 st, .string tx, .int .i64 it, .int .u8 fl, .int .u32 ui, .int .u32 sz, .slice P bl c] ∧ Blk wc (w.heap.size + 1) 26 #[.int .i64 4, .int .u32 n, .string ⟨#[]⟩, .int .i64 0, .string ⟨#[]⟩, .int .i64 it, .int .u8 0, .int .u32 0, .int .u32 0, .slice none 0 0]) := HW
    clear HW c0 c1 c2 c3 c4 c5 c6 c7 c8 c9
    obtain ⟨⟨c0, c1, c2, c3, c4, c5, c6, c7, c8, c9⟩, -⟩ := Blk.ten H0.out.2.1
    obtain ⟨⟨d0, d1, d2, d3, d4, d5, d6, d7, d8, d9⟩, f0, f1, f2, f3, f4, f5, f6, f7, f8, f9⟩ := Blk.ten H0.out.2.2
    have hsz0 := H0.out.1.size
    go_upto_if 53 with fail
    go_cut [] (fun wx => Below w.heap.size w wx ∧ Blk wx w.heap.size 26 #[.int .i64 4, .int .u32 n, .string tg, .int .i64 st, .string tx, .int .i64 it, .int .u8 fl, .int .u32 ui, .int .u32 sz, .slice P bl c] ∧ Blk wx (w.heap.size + 1) 26 #[.int .i64 4, .int .u32 n, .string ⟨#[]⟩, .int .i64 0, .string ⟨#[]⟩, .int .i64 it, .int .u8 (selI b1 fl), .int .u32 0, .int .u32 0, .slice none 0 0])
    case first =>
      cases hb : b1 with
      | true =>
        rw [hb] at Hb1
        have hd := Hb1.out
        have HHB := Lib.hid hb
        clear hb
        have hp := H0.out.2.2.put 6 (.int .u8 fl)
        simp only [List.setIfInBounds_toArray, List.set_cons_zero, List.set_cons_succ] at hp
        have HP := Lib.hid hp
        clear hp
        go_wp2_with fail
        go_meet
        rw [HHB.out]
        exact ⟨H0.out.1.setCell (Nat.le_succ _) _, H0.out.2.1.far3 (by omega) _, HP.out⟩
      | false =>
        rw [hb] at Hb1
        have hd := Hb1.out
        have HHB := Lib.hid hb
        clear hb
        go_wp2_with fail
        go_meet
        rw [HHB.out]
        exact H0.out
    case rest =>
      have H1 := Lib.hid hcut
      clear hcut c0 c1 c2 c3 c4 c5 c6 c7 c8 c9 d0 d1 d2 d3 d4 d5 d6 d7 d8 d9 f0 f1 f2 f3 f4 f5 f6 f7 f8 f9 H0 hsz0
      obtain ⟨⟨c0, c1, c2, c3, c4, c5, c6, c7, c8, c9⟩, -⟩ := Blk.ten H1.out.2.1
      obtain ⟨⟨d0, d1, d2, d3, d4, d5, d6, d7, d8, d9⟩, f0, f1, f2, f3, f4, f5, f6, f7, f8, f9⟩ := Blk.ten H1.out.2.2
      have hsz1 := H1.out.1.size
      go_upto_if 60 with fail
      go_cut [] (fun wx => Below w.heap.size w wx ∧ Blk wx w.heap.size 26 #[.int .i64 4, .int .u32 n, .string tg, .int .i64 st, .string tx, .int .i64 it, .int .u8 fl, .int .u32 ui, .int .u32 sz, .slice P bl c] ∧ Blk wx (w.heap.size + 1) 26 #[.int .i64 4, .int .u32 n, .string ⟨#[]⟩, .int .i64 0, .string ⟨#[]⟩, .int .i64 it, .int .u8 (selI b1 fl), .int .u32 (selI b2 ui), .int .u32 0, .slice none 0 0])
      case first =>
        cases hb : b2 with
        | true =>
          rw [hb] at Hb2
          have hd := Hb2.out
          have HHB := Lib.hid hb
          clear hb
          have hp := H1.out.2.2.put 7 (.int .u32 ui)
          simp only [List.setIfInBounds_toArray, List.set_cons_zero, List.set_cons_succ] at hp
          have HP := Lib.hid hp
          clear hp
          go_wp2_with fail
          go_meet
          rw [HHB.out]
          exact ⟨H1.out.1.setCell (Nat.le_succ _) _, H1.out.2.1.far3 (by omega) _, HP.out⟩
        | false =>
          rw [hb] at Hb2
          have hd := Hb2.out
          have HHB := Lib.hid hb
          clear hb
          go_wp2_with fail
          go_meet
          rw [HHB.out]
          exact H1.out
      case rest =>
        have H2 := Lib.hid hcut
        clear hcut c0 c1 c2 c3 c4 c5 c6 c7 c8 c9 d0 d1 d2 d3 d4 d5 d6 d7 d8 d9 f0 f1 f2 f3 f4 f5 f6 f7 f8 f9 H1 hsz1
        obtain ⟨⟨c0, c1, c2, c3, c4, c5, c6, c7, c8, c9⟩, -⟩ := Blk.ten H2.out.2.1
        obtain ⟨⟨d0, d1, d2, d3, d4, d5, d6, d7, d8, d9⟩, f0, f1, f2, f3, f4, f5, f6, f7, f8, f9⟩ := Blk.ten H2.out.2.2
        have hsz2 := H2.out.1.size
        go_upto_if 67 with fail
        go_cut [] (fun wx => Below w.heap.size w wx ∧ Blk wx w.heap.size 26 #[.int .i64 4, .int .u32 n, .string tg, .int .i64 st, .string tx, .int .i64 it, .int .u8 fl, .int .u32 ui, .int .u32 sz, .slice P bl c] ∧ Blk wx (w.heap.size + 1) 26 #[.int .i64 4, .int .u32 n, .string ⟨#[]⟩, .int .i64 0, .string ⟨#[]⟩, .int .i64 it, .int .u8 (selI b1 fl), .int .u32 (selI b2 ui), .int .u32 (selI b4 sz), .slice none 0 0])
        case first =>
          cases hb : b4 with
          | true =>
            rw [hb] at Hb4
            have hd := Hb4.out
            have HHB := Lib.hid hb
            clear hb
            have hp := H2.out.2.2.put 8 (.int .u32 sz)
            simp only [List.setIfInBounds_toArray, List.set_cons_zero, List.set_cons_succ] at hp
            have HP := Lib.hid hp
            clear hp
            go_wp2_with fail
            go_meet
            rw [HHB.out]
            exact ⟨H2.out.1.setCell (Nat.le_succ _) _, H2.out.2.1.far3 (by omega) _, HP.out⟩
          | false =>
            rw [hb] at Hb4
            have hd := Hb4.out
            have HHB := Lib.hid hb
            clear hb
            go_wp2_with fail
            go_meet
            rw [HHB.out]
            exact H2.out
        case rest =>
          have H3 := Lib.hid hcut
          clear hcut c0 c1 c2 c3 c4 c5 c6 c7 c8 c9 d0 d1 d2 d3 d4 d5 d6 d7 d8 d9 f0 f1 f2 f3 f4 f5 f6 f7 f8 f9 H2 hsz2
          obtain ⟨⟨c0, c1, c2, c3, c4, c5, c6, c7, c8, c9⟩, -⟩ := Blk.ten H3.out.2.1
          obtain ⟨⟨d0, d1, d2, d3, d4, d5, d6, d7, d8, d9⟩, f0, f1, f2, f3, f4, f5, f6, f7, f8, f9⟩ := Blk.ten H3.out.2.2
          have hsz3 := H3.out.1.size
          cases hb : b16 with
          | true =>
            rw [hb] at Hb16 HSM
            have hd := Hb16.out
            have HHB := Lib.hid hb
            clear hb
            have hp := H3.out.2.2.put 9 (.slice P bl c)
            simp only [List.setIfInBounds_toArray, List.set_cons_zero, List.set_cons_succ] at hp
            have HE : Hid (Below w.heap.size w (wc.setCell ⟨w.heap.size + 1, 9, none⟩ (.slice P bl c)) ∧ Blk (wc.setCell ⟨w.heap.size + 1, 9, none⟩ (.slice P bl c)) w.heap.size 26 #[.int .i64 4, .int .u32 n, .string tg, .int .i64 st, .string tx, .int .i64 it, .int .u8 fl, .int .u32 ui, .int .u32 sz, .slice P bl c] ∧ Blk (wc.setCell ⟨w.heap.size + 1, 9, none⟩ (.slice P bl c)) (w.heap.size + 1) 26 #[.int .i64 4, .int .u32 n, .string ⟨#[]⟩, .int .i64 0, .string ⟨#[]⟩, .int .i64 it, .int .u8 (selI b1 fl), .int .u32 (selI b2 ui), .int .u32 (selI b4 sz), .slice P bl c]) := Lib.hid ⟨H3.out.1.setCell (Nat.le_succ _) _, H3.out.2.1.far3 (by omega) _, hp⟩
            clear hp
            go_upto_region 33 with fail
            clear c0 c1 c2 c3 c4 c5 c6 c7 c8 c9 d0 d1 d2 d3 d4 d5 d6 d7 d8 d9 f0 f1 f2 f3 f4 f5 f6 f7 f8 f9
            obtain ⟨⟨c0, c1, c2, c3, c4, c5, c6, c7, c8, c9⟩, -⟩ := Blk.ten HE.out.2.1
            obtain ⟨⟨d0, d1, d2, d3, d4, d5, d6, d7, d8, d9⟩, -⟩ := Blk.ten HE.out.2.2
            cases ok with
            | false =>
              go_wp2_with fail
              go_ret
              exact ⟨rfl, HE.out.1⟩
            | true =>
              go_wp2_with fail
              refine (HSM.out _ HE.out.1).mono ?_
              rintro e w1 ⟨rfl, hb⟩
              have HB : Hid (Below w.heap.size w w1) := Lib.hid (below_call HE.out.1 hb)
              clear hb
              go_wp2_with fail
              go_ret
              exact ⟨rfl, HB.out⟩
          | false =>
            rw [hb] at Hb16 HSM
            have hd := Hb16.out
            clear hb
            have HE := H3
            cases ok with
            | false =>
              go_wp2_with fail
              go_ret
              exact ⟨rfl, HE.out.1⟩
            | true =>
              go_wp2_with fail
              refine (HSM.out _ HE.out.1).mono ?_
              rintro e w1 ⟨rfl, hb⟩
              have HB : Hid (Below w.heap.size w w1) := Lib.hid (below_call HE.out.1 hb)
              clear hb
              go_wp2_with fail
              go_ret
              exact ⟨rfl, HB.out⟩
end Go.Proofs.YtgdhakkfddmkjaaDoor
