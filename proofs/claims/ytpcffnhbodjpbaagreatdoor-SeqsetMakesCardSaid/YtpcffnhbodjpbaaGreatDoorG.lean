/- The walks of package char: Decimal and Number, over the contracts of the library's strconv. -/
import Derived.Test.YtpcffnhbodjpbaaGreatDoorF
import Derived.Test.YtpcffnhbodjpbaaGreatDoorShelf
import Derived.Test.YtpcffnhbodjpbaaGreatDoorStd
import Derived.Lib.ItoaMem
import Derived.Lib.SmallJoins
import Derived.Lib.ParseIntBCases
set_option linter.unusedVariables false
set_option linter.unusedSimpArgs false
namespace Go.Proofs.YtpcffnhbodjpbaaGreatDoor
open Go.RowKit Go.Sort

theorem grow_belowG (w : World) (k : Nat) (os : Array Obj) : Below w.heap.size w (grow (w.drewN k) os) :=
  ⟨rfl, rfl, rfl, by show w.heap.size ≤ (w.heap ++ os).size; simp, fun j hj => by show (w.heap ++ os)[j]? = _; rw [Array.getElem?_append_left hj]⟩

theorem fin0 (w : World) (o : Obj) (dk : Array UInt8) (k : Nat) : Below w.heap.size w ((putRow (fun (b : UInt8) => Value.int .u8 (b.toNat : Int)) (w.alloc o) w.heap.size 0 dk).drewN k) := by
  rw [alloc_eq_grow]
  obtain ⟨os', _, e⟩ := putRow_grow_new (fun (b : UInt8) => Value.int .u8 (b.toNat : Int)) w #[o] w.heap.size 0 dk (Nat.le_refl _)
  rw [e]
  exact grow_belowG w k os'
theorem holds_zero0 (w : World) (T : TypeId) (nd : Nat) (hs : nd ≤ 24) : Holds (fun (b : UInt8) => Value.int .u8 (b.toNat : Int)) (w.alloc (.cells Lib.zeros24 T)) w.heap.size 0 (Array.replicate nd (0 : UInt8)) := fun j hj => by
  have hj' : j < nd := by simpa using hj
  refine ⟨?_, World.frozen?_alloc_new _ _ _ _⟩
  rw [World.cell?_alloc_new, Lib.zeros24_at _ (by omega), getElem!_pos _ j hj]
  simp

set_option maxRecDepth 100000 in
set_option maxHeartbeats 1600000 in
theorem fmtUint_big (u : Nat) (w : World) (h0 : ¬ u < 100) (hu64 : u < 18446744073709551616) (htab : Lib.TabIs Tryz.prog w "internal/strconv.uint64pow10" .u64 Lib.pow10Tab) :
    Calls Tryz.prog 67 #[.int .u64 u, .int .i64 10] w fun e w' => e = .returned (.string (ofL (Lib.decDigits u))) ∧ Below w.heap.size w w' := by
  have hu1 : 1 ≤ u := by omega
  have hnd20 : Lib.nDigits u ≤ 20 := by have := Lib.numDigits_eq u hu1 hu64; split at this <;> omega
  have hal : Tryz.prog.arrayLen 126 = 24 := by kernel_rfl
  have hsl : ∀ W, (Instr.sliceAt 126 (.pointer (some ⟨w.heap.size, 0, none⟩)) none (some (.int .i64 ((Lib.nDigits u : Nat) : Int))) none).run Tryz.prog W = .ok (.slice (some ⟨w.heap.size, 0, none⟩) (Lib.nDigits u) 24) W := fun W => by
    rw [run_sliceAt_array_h W 126 ⟨w.heap.size, 0, none⟩ (by simp [Program.arrayLen, Program.elem, Tryz.underlying126]) .i64 ((Lib.nDigits u : Nat) : Int) (by omega) (by rw [hal]; omega)]
    rw [hal]; rfl
  have hH0 := holds_zero0 w 126 (Lib.nDigits u) (by omega)
  have hfmt := Tryz.internal_strconv_formatBase10 w.heap.size 0 24 u (Array.replicate (Lib.nDigits u) 0) (w.alloc (.cells Lib.zeros24 126)) hH0 (by rw [Array.size_replicate]; exact Lib.lt_pow_nDigits u) hu64 (by rw [Array.size_replicate]; omega)
  rw [Array.size_replicate] at hfmt
  have HH0 := Lib.hid hH0
  have HF := Lib.hid hfmt
  have HT := Lib.hid (Lib.tabIs_alloc htab (.cells Lib.zeros24 126))
  clear hH0 hal hfmt htab
  have hlt : ¬ (u : Int) < 100 := by omega
  go_enter Tryz.func67, Tryz.ntmps67
  go_wp2_with fail
  refine (Tryz.internal_strconv_numDigits u hu1 hu64 _ HT.out).mono ?_
  rintro e w' ⟨rfl, rfl⟩
  go_wp2_with fail
  refine HF.out.mono ?_
  rintro e w' ⟨rfl, k, v', dk, rfl, hF⟩
  have hcv := run_convert_bytes_back (P := Tryz.prog) ((putRow (fun (b : UInt8) => Value.int .u8 (b.toNat : Int)) (w.alloc (.cells Lib.zeros24 126)) w.heap.size 0 dk).drewN k) 72 9 5 ⟨w.heap.size, 0, none⟩ 24 (Lib.decDigits u) Tryz.underlying72 Tryz.underlying5 Tryz.underlying9 (fun j hj => by
      rw [Lib.row_is_numeral hF j hj, Lib.add_plain, World.cell?_drewN]
      exact cell?_putRow (fun (b : UInt8) => Value.int .u8 (b.toNat : Int)) _ w.heap.size 0 _ dk HH0.out (by rw [hF.size, Array.size_replicate]) j (by rw [hF.size]; rw [Lib.decDigits_length] at hj; exact hj))
  rw [Lib.decDigits_length] at hcv
  have hfin := fin0 w (.cells Lib.zeros24 126) dk k
  generalize (putRow (fun (b : UInt8) => Value.int .u8 (b.toNat : Int)) (w.alloc (.cells Lib.zeros24 126)) w.heap.size 0 dk).drewN k = w5 at hcv hfin ⊢
  go_wp2_with fail
  go_ret
  exact ⟨rfl, hfin⟩

theorem fmtUint_any (u : Nat) (w : World) (hu64 : u < 18446744073709551616) (htab : Lib.TabIs Tryz.prog w "internal/strconv.uint64pow10" .u64 Lib.pow10Tab) :
    Calls Tryz.prog 67 #[.int .u64 u, .int .i64 10] w fun e w' => e = .returned (.string (ofL (Lib.decDigits u))) ∧ Below w.heap.size w w' := by
  by_cases h0 : u < 100
  · clear htab
    go_enter Tryz.func67, Tryz.ntmps67
    go_wp2_with (go_at_call 98; refine (Tryz.internal_strconv_small u h0 _).mono ?_; rintro e w' ⟨rfl, rfl⟩)
    go_ret
    exact ⟨rfl, Below.refl _ _⟩
  · exact fmtUint_big u w h0 hu64 htab

theorem decimal_any (n : Nat) (w : World) (hn : n < 4294967296) (hS : Std w) :
    Calls Tryz.prog 39 #[.int .u32 n] w fun e w' => e = .returned (.string (ofL (Lib.decDigits n))) ∧ Below w.heap.size w w' := by
  have H := Lib.hid (fmtUint_any n w (by omega) hS.tab)
  generalize hx : ofL (Lib.decDigits n) = x at H
  have HX := Lib.hid hx
  clear hS hx
  have h32 : Calls Tryz.prog 55 #[.int .u64 n, .int .i64 10] w fun e w' => e = .returned (.string x) ∧ Below w.heap.size w w' := by
    go_enter Tryz.func55, Tryz.ntmps55
    go_wp2_with (go_at_call 67; refine H.out.mono ?_; rintro e w' ⟨rfl, hb⟩)
    go_ret
    exact ⟨rfl, hb⟩
  have H32 := Lib.hid h32
  clear h32 H
  go_enter Tryz.func39, Tryz.ntmps39
  go_wp2_with (go_at_call 55; refine H32.out.mono ?_; rintro e w' ⟨rfl, hb⟩)
  go_ret
  exact ⟨rfl, hb⟩
end Go.Proofs.YtpcffnhbodjpbaaGreatDoor
