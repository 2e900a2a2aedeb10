/- What the statements' rows list, as the walks take it: the library's variables that the code reads. · The walks of package char: Decimal and Number, over the contracts of the library's strconv. · The walk of package char's Number. · The walks of package quote: Quoted; and its reference. · The walks of the reference of package quote: Quoted. · The walks of package quote: Literal and Best; and their references. · The walks of package quote: Announced; and its reference. · The walk of the reference of package quote: Announced. -/
import Derived.Test.YtllboenffepcgaaDoorProg
import Derived.Test.YtllboenffepcgaaDoorJ0
import Derived.Lib.SmallJoins
import Derived.Lib.LaidTab
import Derived.Lib.ItoaNum
import Derived.Test.YtllboenffepcgaaDoorShelf
import Derived.Lib.ItoaMem
import Derived.Lib.ParseIntBCases
import Derived.Test.YtllboenffepcgaaDoorJ1
import Derived.Lib.BufferWrite
import Derived.Laws.CopyOwn
import Derived.Lib.SlBytesConst
set_option linter.unusedVariables false
set_option linter.unusedSimpArgs false
namespace Go.Proofs.YtllboenffepcgaaDoor
open Go.RowKit

theorem cell_stays {w w' : World} {a : Addr} {v : Value} (h : w.cell? a = some v) (hb : Below w.heap.size w w') : w'.cell? a = some v := by
  have hlt : a.block < w.heap.size := by
    by_cases hl : a.block < w.heap.size
    · exact hl
    · exfalso
      unfold World.cell? at h
      rw [Array.getElem?_eq_none (by omega)] at h
      cases h
  rw [hb.cell hlt]; exact h

/-- The variables of strconv. -/
structure Std (w : World) : Prop where
  tab : Lib.TabIs Tryd.prog w "internal/strconv.uint64pow10" .u64 Lib.pow10Tab
  syn : ∃ t p, w.var? Tryd.prog "strconv.ErrSyntax" = some #[.iface t p]
  rng : ∃ t p, w.var? Tryd.prog "strconv.ErrRange" = some #[.iface t p]
theorem gTab : Tryd.prog.globalNamed "internal/strconv.uint64pow10" = some 3 := by kernel_rfl
theorem gSyn : Tryd.prog.globalNamed "strconv.ErrSyntax" = some 1 := by kernel_rfl
theorem gRng : Tryd.prog.globalNamed "strconv.ErrRange" = some 2 := by kernel_rfl
theorem Std.below {w w' : World} (h : Std w) (hb : Below w.heap.size w w') : Std w' := {
  tab := Go.Joins.tab_stays gTab h.tab hb (Nat.le_refl _)
  syn := let ⟨t, p, e⟩ := h.syn; ⟨t, p, Go.Joins.var_stays gSyn e hb (Nat.le_refl _)⟩
  rng := let ⟨t, p, e⟩ := h.rng; ⟨t, p, Go.Joins.var_stays gRng e hb (Nat.le_refl _)⟩
}

end Go.Proofs.YtllboenffepcgaaDoor
namespace Go.Proofs.YtllboenffepcgaaDoor
open Go.RowKit Go.Sort

theorem grow_below (w : World) (k : Nat) (os : Array Obj) : Below w.heap.size w (grow (w.drewN k) os) :=
  ⟨rfl, rfl, rfl, by show w.heap.size ≤ (w.heap ++ os).size; simp, fun j hj => by show (w.heap ++ os)[j]? = _; rw [Array.getElem?_append_left hj]⟩

theorem fin0 (w : World) (o : Obj) (dk : Array UInt8) (k : Nat) : Below w.heap.size w ((putRow (fun (b : UInt8) => Value.int .u8 (b.toNat : Int)) (w.alloc o) w.heap.size 0 dk).drewN k) := by
  rw [alloc_eq_grow]
  obtain ⟨os', _, e⟩ := putRow_grow_new (fun (b : UInt8) => Value.int .u8 (b.toNat : Int)) w #[o] w.heap.size 0 dk (Nat.le_refl _)
  rw [e]
  exact grow_below w k os'
theorem holds_zero0 (w : World) (T : TypeId) (nd : Nat) (hs : nd ≤ 24) : Holds (fun (b : UInt8) => Value.int .u8 (b.toNat : Int)) (w.alloc (.cells Lib.zeros24 T)) w.heap.size 0 (Array.replicate nd (0 : UInt8)) := fun j hj => by
  have hj' : j < nd := by simpa using hj
  refine ⟨?_, World.frozen?_alloc_new _ _ _ _⟩
  rw [World.cell?_alloc_new, Lib.zeros24_at _ (by omega), getElem!_pos _ j hj]
  simp

set_option maxRecDepth 100000 in
set_option maxHeartbeats 1600000 in
theorem fmtUint_big (u : Nat) (w : World) (h0 : ¬ u < 100) (hu64 : u < 18446744073709551616) (htab : Lib.TabIs Tryd.prog w "internal/strconv.uint64pow10" .u64 Lib.pow10Tab) :
    Calls Tryd.prog 72 #[.int .u64 u, .int .i64 10] w fun e w' => e = .returned (.string (ofL (Lib.decDigits u))) ∧ Below w.heap.size w w' := by
  have hu1 : 1 ≤ u := by omega
  have hnd20 : Lib.nDigits u ≤ 20 := by have := Lib.numDigits_eq u hu1 hu64; split at this <;> omega
  have hal : Tryd.prog.arrayLen 111 = 24 := by kernel_rfl
  have hsl : ∀ W, (Instr.sliceAt 111 (.pointer (some ⟨w.heap.size, 0, none⟩)) none (some (.int .i64 ((Lib.nDigits u : Nat) : Int))) none).run Tryd.prog W = .ok (.slice (some ⟨w.heap.size, 0, none⟩) (Lib.nDigits u) 24) W := fun W => by
    rw [run_sliceAt_array_h W 111 ⟨w.heap.size, 0, none⟩ (by simp [Program.arrayLen, Program.elem, Tryd.underlying111]) .i64 ((Lib.nDigits u : Nat) : Int) (by omega) (by rw [hal]; omega)]
    rw [hal]; rfl
  have hH0 := holds_zero0 w 111 (Lib.nDigits u) (by omega)
  have hfmt := Tryd.internal_strconv_formatBase10 w.heap.size 0 24 u (Array.replicate (Lib.nDigits u) 0) (w.alloc (.cells Lib.zeros24 111)) hH0 (by rw [Array.size_replicate]; exact Lib.lt_pow_nDigits u) hu64 (by rw [Array.size_replicate]; omega)
  rw [Array.size_replicate] at hfmt
  have HH0 := Lib.hid hH0
  have HF := Lib.hid hfmt
  have HT := Lib.hid (Lib.tabIs_alloc htab (.cells Lib.zeros24 111))
  clear hH0 hal hfmt htab
  have hlt : ¬ (u : Int) < 100 := by omega
  go_enter Tryd.func72, Tryd.ntmps72
  go_wp2_with fail
  refine (Tryd.internal_strconv_numDigits u hu1 hu64 _ HT.out).mono ?_
  rintro e w' ⟨rfl, rfl⟩
  go_wp2_with fail
  refine HF.out.mono ?_
  rintro e w' ⟨rfl, k, v', dk, rfl, hF⟩
  have hcv := run_convert_bytes_back (P := Tryd.prog) ((putRow (fun (b : UInt8) => Value.int .u8 (b.toNat : Int)) (w.alloc (.cells Lib.zeros24 111)) w.heap.size 0 dk).drewN k) 26 9 5 ⟨w.heap.size, 0, none⟩ 24 (Lib.decDigits u) Tryd.underlying26 Tryd.underlying5 Tryd.underlying9 (fun j hj => by
      rw [Lib.row_is_numeral hF j hj, Lib.add_plain, World.cell?_drewN]
      exact cell?_putRow (fun (b : UInt8) => Value.int .u8 (b.toNat : Int)) _ w.heap.size 0 _ dk HH0.out (by rw [hF.size, Array.size_replicate]) j (by rw [hF.size]; rw [Lib.decDigits_length] at hj; exact hj))
  rw [Lib.decDigits_length] at hcv
  have hfin := fin0 w (.cells Lib.zeros24 111) dk k
  generalize (putRow (fun (b : UInt8) => Value.int .u8 (b.toNat : Int)) (w.alloc (.cells Lib.zeros24 111)) w.heap.size 0 dk).drewN k = w5 at hcv hfin ⊢
  go_wp2_with fail
  go_ret
  exact ⟨rfl, hfin⟩

theorem fmtUint_any (u : Nat) (w : World) (hu64 : u < 18446744073709551616) (htab : Lib.TabIs Tryd.prog w "internal/strconv.uint64pow10" .u64 Lib.pow10Tab) :
    Calls Tryd.prog 72 #[.int .u64 u, .int .i64 10] w fun e w' => e = .returned (.string (ofL (Lib.decDigits u))) ∧ Below w.heap.size w w' := by
  by_cases h0 : u < 100
  · clear htab
    go_enter Tryd.func72, Tryd.ntmps72
    go_wp2_with (go_at_call 76; refine (Tryd.internal_strconv_small u h0 _).mono ?_; rintro e w' ⟨rfl, rfl⟩)
    go_ret
    exact ⟨rfl, Below.refl _ _⟩
  · exact fmtUint_big u w h0 hu64 htab

theorem decimal_any (n : Nat) (w : World) (hn : n < 4294967296) (hS : Std w) :
    Calls Tryd.prog 57 #[.int .u32 n] w fun e w' => e = .returned (.string (ofL (Lib.decDigits n))) ∧ Below w.heap.size w w' := by
  have H := Lib.hid (fmtUint_any n w (by omega) hS.tab)
  generalize hx : ofL (Lib.decDigits n) = x at H
  have HX := Lib.hid hx
  clear hS hx
  have h32 : Calls Tryd.prog 65 #[.int .u64 n, .int .i64 10] w fun e w' => e = .returned (.string x) ∧ Below w.heap.size w w' := by
    go_enter Tryd.func65, Tryd.ntmps65
    go_wp2_with (go_at_call 72; refine H.out.mono ?_; rintro e w' ⟨rfl, hb⟩)
    go_ret
    exact ⟨rfl, hb⟩
  have H32 := Lib.hid h32
  clear h32 H
  go_enter Tryd.func57, Tryd.ntmps57
  go_wp2_with (go_at_call 65; refine H32.out.mono ?_; rintro e w' ⟨rfl, hb⟩)
  go_ret
  exact ⟨rfl, hb⟩
end Go.Proofs.YtllboenffepcgaaDoor
namespace Go.Proofs.YtllboenffepcgaaDoor
open Go.RowKit

theorem number_err (s : ByteArray) (v : Int) (w : World) (H : Calls Tryd.prog 56 #[.string s, .int .i64 10, .int .i64 32] w fun e w' => ∃ N, e = .returned (.tuple #[.int .u64 v, .iface 103 (.pointer (some ⟨N, 0, none⟩))]) ∧ Below w.heap.size w w') :
    Calls Tryd.prog 40 #[.string s] w fun e w' => e = .returned (.tuple #[.int .u32 0, .bool false]) ∧ Below w.heap.size w w' := by
  have HH := Lib.hid H
  clear H
  go_enter Tryd.func40, Tryd.ntmps40
  go_wp2_with (go_at_call 56; refine HH.out.mono ?_; rintro e w' ⟨N, rfl, hb⟩)
  go_ret2
  exact ⟨rfl, hb⟩

theorem numV_none : numV none = .tuple #[.int .u32 0, .bool false] := rfl
theorem numV_some (u : Nat) : numV (some u) = .tuple #[.int .u32 u, .bool true] := rfl

set_option maxRecDepth 100000 in
set_option maxHeartbeats 400000 in
theorem number_any (s : ByteArray) (w : World) (hs : s.size ≤ 1048576) (hS : Std w) :
    Calls Tryd.prog 40 #[.string s] w fun e w' => e = .returned (numV (numB s.data.toList)) ∧ Below w.heap.size w w' := by
  rcases hp : Lib.parseUintB 32 s.data.toList with u | _ | _
  rotate_left
  · rw [numB_none_of_parse (by rw [hp]; rintro u ⟨⟩), numV_none]
    obtain ⟨t, p, hv⟩ := hS.syn
    exact number_err s 0 w ((Any.strconv_ParseUint_10_at32_syntax_var Tryd.laysPu14 s (by omega) hp t p w hv).mono fun e w' ⟨N, he, _, _, hb⟩ => ⟨N, he, hb⟩)
  · rw [numB_none_of_parse (by rw [hp]; rintro u ⟨⟩), numV_none]
    obtain ⟨t, p, hv⟩ := hS.rng
    exact number_err s 4294967295 w ((Tryd.strconv_ParseUint_10_at32_range_var s (by omega) hp t p w hv).mono fun e w' ⟨N, he, _, _, hb⟩ => ⟨N, he, hb⟩)
  · have hu : u < 4294967296 := by have := Lib.parseUintB_le hp; simp at this; omega
    have H28 := Lib.hid (Tryd.strconv_ParseUint_10_at32_ok s (by omega) u hp w)
    have hN := numB_of_parse hp
    have hbw := Lib.bytesWorld_below w 5 s
    clear hp
    have H21 : Hid (∀ w', Below w.heap.size w w' → Calls Tryd.prog 57 #[.int .u32 u] w' fun e w'' => e = .returned (.string (ofL (Lib.decDigits u))) ∧ Below w.heap.size w w'') :=
      Lib.hid fun w' hb => (decimal_any u w' hu (hS.below hb)).mono fun e w'' ⟨he, hb2⟩ => ⟨he, hb.trans (hb2.mono hb.size)⟩
    clear hS
    generalize hx : ofL (Lib.decDigits u) = x at H21
    have HBW := Lib.hid hbw
    clear hbw
    by_cases he : x.toList = s.toList
    · have R : Hid (numB s.data.toList = some u) := Lib.hid (by
        rw [ByteArray.toList_eq, ByteArray.toList_eq, ← hx, ofL_data] at he
        rw [hN, if_pos he])
      have e1 : (x.toList == s.toList) = true := by rw [beq_iff_eq]; exact he
      have e2 : (x.toList != s.toList) = false := by rw [bne, e1]; rfl
      rw [R.out, numV_some]
      clear hx he hN
      go_enter Tryd.func40, Tryd.ntmps40
      go_wp2_with fail
      refine H28.out.mono ?_
      rintro e w' ⟨rfl, hw⟩
      have hb : Below w.heap.size w w' := by
        rcases hw with rfl | rfl
        · exact Below.refl _ _
        · exact HBW.out
      clear hw
      go_wp2_with fail
      refine (H21.out _ hb).mono ?_
      rintro e w2 ⟨rfl, hb2⟩
      go_wp2_with fail
      go_ret2
      exact ⟨rfl, hb2⟩
    · have R : Hid (numB s.data.toList = none) := Lib.hid (by
        have hne : Lib.decDigits u ≠ s.data.toList := fun h => he (by rw [ByteArray.toList_eq, ByteArray.toList_eq, ← hx, ofL_data]; exact h)
        rw [hN, if_neg hne])
      have e1 : (x.toList == s.toList) = false := by rw [beq_eq_false_iff_ne]; exact he
      have e2 : (x.toList != s.toList) = true := by rw [bne, e1]; rfl
      rw [R.out, numV_none]
      clear hx he hN
      go_enter Tryd.func40, Tryd.ntmps40
      go_wp2_with fail
      refine H28.out.mono ?_
      rintro e w' ⟨rfl, hw⟩
      have hb : Below w.heap.size w w' := by
        rcases hw with rfl | rfl
        · exact Below.refl _ _
        · exact HBW.out
      clear hw
      go_wp2_with fail
      refine (H21.out _ hb).mono ?_
      rintro e w2 ⟨rfl, hb2⟩
      go_wp2_with fail
      go_ret2
      exact ⟨rfl, hb2⟩
end Go.Proofs.YtllboenffepcgaaDoor
namespace Go.Proofs.YtllboenffepcgaaDoor
open Go.RowKit

theorem bld_new (w : World) : Bld w.heap.size w.heap.size [] (w.alloc (.cells #[.pointer none, .slice none 0 0] 67)) :=
  Lib.fresh_isBuilder 67 5 w

def quoV (o : Option (List UInt8)) : Value := match o with
  | none => .tuple #[.string ⟨#[]⟩, .bool false]
  | some x => .tuple #[.string (ofL x), .bool true]

theorem bys_byte {w : World} {B b o : Nat} {l : List UInt8} {k : Nat} (hc : ∀ i (h : i < l.length), w.cell? ⟨b, o + i, none⟩ = some (.int .u8 (l[i].toNat : Int))) (hk : k < l.length) : w.cell? ⟨b, o + k, none⟩ = some (.int .u8 (l[k].toNat : Int)) := hc k hk

theorem qesc_len (l : List UInt8) : (l.flatMap qesc).length ≤ 2 * l.length := by
  induction l with
  | nil => simp
  | cons c l ih =>
    rw [List.flatMap_cons, List.length_append, List.length_cons]
    have : (qesc c).length ≤ 2 := by unfold qesc; split <;> simp
    omega
theorem qesc_take (l : List UInt8) (k : Nat) (hk : k < l.length) : (l.take (k + 1)).flatMap qesc = (l.take k).flatMap qesc ++ qesc l[k] := by
  rw [List.take_succ_eq_append_getElem hk, List.flatMap_append]; simp
theorem qesc_yes {c : UInt8} (h : c.toNat = 34 ∨ c.toNat = 92) : qesc c = [92] ++ [c] := by unfold qesc; rw [if_pos h]; rfl
theorem qesc_no {c : UInt8} (h : ¬ (c.toNat = 34 ∨ c.toNat = 92)) : qesc c = [c] := by unfold qesc; rw [if_neg h]
theorem quoB_bad (l : List UInt8) (h : l.all (fun b => textB b.toNat) = false) : quoB l = none := by unfold quoB; rw [if_neg (by rw [h]; simp)]
theorem quoB_ok (l : List UInt8) (h : l.all (fun b => textB b.toNat) = true) : quoB l = some (34 :: (l.flatMap qesc ++ [34])) := by unfold quoB; rw [if_pos h]

end Go.Proofs.YtllboenffepcgaaDoor
namespace Go.Proofs.YtllboenffepcgaaDoor
open Go.RowKit

theorem conv_piece {w : World} {b o : Nat} {x : UInt8} (c : Nat) (h : w.cell? ⟨b, o, none⟩ = some (.int .u8 (x.toNat : Int))) :
    (convert 26 9 (.slice (some ⟨b, o, none⟩) 1 c)).run Tryd.prog w = .ok (.string (ofL [x])) w :=
  run_convert_bytes_back (P := Tryd.prog) w 26 9 5 ⟨b, o, none⟩ c [x] Tryd.underlying26 Tryd.underlying5 Tryd.underlying9 (fun j hj => by
    obtain rfl : j = 0 := by simpa using hj
    rw [show (⟨b, o, none⟩ : Addr).add 0 = ⟨b, o, none⟩ from rfl, h]; rfl)

theorem grow_app (s x : ByteArray) (l m : List UInt8) (hs : s.data.toList = l) (hx : x = ofL m) : (s ++ x).data.toList = l ++ m := by
  subst hx; rw [ByteArray.data_append, Array.toList_append, hs, ofL_data]

end Go.Proofs.YtllboenffepcgaaDoor
namespace Go.Proofs.YtllboenffepcgaaDoor
open Go.RowKit

theorem wpList_copy_run {P : Program} {w : World} {ops : Array Oper} {rest : List Oper} {o : Oper} {a : Act} {Q : Exit → Act → World → Prop} (hgd : o.guard = none) (d s : Operand) (dT sT : TypeId)
    (ho : o.op = .call { callee := .builtin .copy, args := #[d, s], argTypes := #[dT, sT] }) (x y : Value) (hx : a.eval d = x) (hy : a.eval s = y) (v : Value) (w' : World)
    (hrun : (Builtin.copy_ #[dT, sT] o.type #[x, y]).run P w = .ok v w') (h : wpList P ops Q rest (a.put o.dst v) w') : wpList P ops Q (o :: rest) a w := by
  refine wpList_plain hgd fun K hK => ?_
  unfold Oper.wp execOp
  simp only [ho, resolve, invoke, builtin, Sem.run_bind, Sem.run_pure, Result.andThen_ok, List.map_toArray, List.map_cons, List.map_nil, hx, hy, hrun]
  exact hK _ _ h

theorem madeCells_bytes (n : Nat) : madeCells (Value.int .u8 0).cells n = (Lib.byteCells (List.replicate n (0 : UInt8))).toArray := by
  apply Array.ext
  · simp [madeCells, Lib.byteCells]
  · intro i h1 h2
    simp [madeCells, Lib.byteCells, Value.cells, Nat.mod_one]
theorem byteCells_app (a b : List UInt8) : Lib.byteCells (a ++ b) = Lib.byteCells a ++ Lib.byteCells b := by simp [Lib.byteCells]

/-- A row of bytes, known whole. -/
def Row (w : World) (g : Nat) (l : List UInt8) : Prop := w.heap[g]? = some (.cells (Lib.byteCells l).toArray 5 (0, 0))
theorem Row.bys {w : World} {g : Nat} {l : List UInt8} (h : Row w g l) : Bys w (g + 1) (some ⟨g, 0, none⟩) l := fun _ => by
  refine ⟨g, 0, rfl, by omega, fun i hi => ?_⟩
  unfold Row at h
  simp [World.cell?, h, Lib.byteCells, hi]
theorem Row.free {w : World} {g : Nat} {l : List UInt8} (h : Row w g l) (i : Nat) : w.frozen? ⟨g, i, none⟩ = false := by
  unfold Row at h
  simp [World.frozen?, h]
theorem Row.lt {w : World} {g : Nat} {l : List UInt8} (h : Row w g l) : g < w.heap.size := lt_of_block h
theorem Row.below {w w' : World} {g B : Nat} {l : List UInt8} (h : Row w g l) (hb : Below B w w') (hg : g < B) : Row w' g l := (hb.block g hg).trans h

theorem u8size : (Tryd.prog.info? 5).map (·.size) = some 1 := by kernel_rfl
theorem make_row (n : Nat) (hn : n ≤ 4194304) (W : World) (N : Int) (hN : N = n) :
    (Instr.makeSlice 26 (.int .i64 N) (.int .i64 N)).run Tryd.prog W = .ok (.slice (some ⟨W.heap.size, 0, none⟩) n n) (W.alloc (.cells (Lib.byteCells (List.replicate n (0 : UInt8))).toArray 5)) := by
  obtain ⟨i0, hi, hz0, hz1, hz2⟩ := info_parts infoU8
  subst hN
  have h := run_make (P := Tryd.prog) (w := W) 26 5 i0 (.int .u8 0) Tryd.underlying26 hi hz0 .i64 .i64 n n (by omega) (by omega) (by rw [hz2]; omega) (by omega)
  rw [h, hz1, Nat.mul_one, Int.toNat_natCast, madeCells_bytes]
theorem row_new (W : World) (l : List UInt8) : Row (W.alloc (.cells (Lib.byteCells l).toArray 5)) W.heap.size l := heap_alloc_new W _

theorem splice_gen {α : Type} (A B D M : List α) (o k : Nat) (ha : A.length = o) (hb : B.length = k) : (A ++ B ++ D).toArray.toList.take o ++ M ++ (A ++ B ++ D).toArray.toList.drop (o + k) = A ++ M ++ D := by
  subst ha hb
  show (A ++ B ++ D).take A.length ++ M ++ (A ++ B ++ D).drop (A.length + B.length) = _
  rw [List.append_assoc A B D, List.take_left, ← List.drop_drop, List.drop_left, List.drop_left]
theorem splice_cells (a b d m : List UInt8) (o k : Nat) (ha : a.length = o) (hb : b.length = k) :
    ((Lib.byteCells (a ++ b ++ d)).toArray.toList.take o ++ Lib.byteCells m ++ (Lib.byteCells (a ++ b ++ d)).toArray.toList.drop (o + k)) = Lib.byteCells (a ++ m ++ d) := by
  have h1 : (Lib.byteCells a).length = o := by rw [Lib.byteCells_length, ha]
  have h2 : (Lib.byteCells b).length = k := by rw [Lib.byteCells_length, hb]
  rw [byteCells_app, byteCells_app, byteCells_app, byteCells_app]
  exact splice_gen _ _ _ _ o k h1 h2
set_option maxRecDepth 100000 in
theorem copy_str (W : World) (ty : TypeId) (g o n c : Nat) (s : ByteArray) (a b d : List UInt8) (hr : Row W g (a ++ b ++ d)) (ha : a.length = o) (hb : b.length = s.size) (hn : s.size ≤ n) :
    (Builtin.copy_ #[26, 9] ty #[.slice (some ⟨g, o, none⟩) n c, .string s]).run Tryd.prog W = .ok (goInt s.size) (W.setRow g (Lib.byteCells (a ++ s.data.toList ++ d)).toArray) := by
  have h := Lib.run_copy_row_string (P := Tryd.prog) W 26 9 ty 5 g o n c s _ _ Tryd.underlying26 u8size hr hn (by simp [Lib.byteCells]; omega)
  rw [splice_cells a b d _ o _ ha hb] at h
  exact h
set_option maxRecDepth 100000 in
theorem copy_bys (W : World) (ty : TypeId) (g o n c : Nat) (p : Option Addr) (B m : Nat) (l a b d : List UInt8) (hr : Row W g (a ++ b ++ d)) (ha : a.length = o) (hb : b.length = l.length) (hn : l.length ≤ n) (hl : Bys W B p l) (h0 : 0 < l.length) :
    (Builtin.copy_ #[26, 26] ty #[.slice (some ⟨g, o, none⟩) n c, .slice p l.length m]).run Tryd.prog W = .ok (goInt l.length) (W.setRow g (Lib.byteCells (a ++ l ++ d)).toArray) := by
  obtain ⟨q, off, rfl, _, hc⟩ := hl h0
  have h := run_copy_row (P := Tryd.prog) W 26 26 ty 5 g o n c ⟨q, off, none⟩ l.length m _ _ (Lib.byteCells l) Tryd.underlying26 u8size hr
    (by rw [Lib.byteCells_length]; exact (Nat.min_eq_left hn).symm) (fun j v hj => by
      have hj' : j < l.length := by have := (List.getElem?_eq_some_iff.1 hj).1; simpa [Lib.byteCells] using this
      rw [Go.WideShapes.add_plain, hc j hj']
      simpa [Lib.byteCells, hj'] using hj) (by simp [Lib.byteCells]; omega) (Lib.byteCells_one l)
  rw [Lib.byteCells_length, splice_cells a b d _ o _ ha hb] at h
  exact h
theorem row_set {W : World} {g : Nat} {l : List UInt8} (h : Row W g l) (m : List UInt8) : Row (W.setRow g (Lib.byteCells m).toArray) g m := setRow_heap W g _ _ _ _ h

/-- What a call hands back as a slice of bytes in memory of its own: nil or new, as it may be. -/
def RetB (W : World) (l : List UInt8) (e : Ending) (w' : World) : Prop :=
  ∃ v, e = .returned v ∧ Buf w' W.heap.size 1 v l.length (Lib.byteCells l) ∧ Below W.heap.size W w'

theorem retB_row {W w' : World} {g cap : Nat} {l : List UInt8} (hr : Row w' g l) (hg : W.heap.size ≤ g) (hc : cap = l.length) (hb : Below W.heap.size W w') : RetB W l (.returned (.slice (some ⟨g, 0, none⟩) l.length cap)) w' := by
  subst hc
  have hcell : ∀ j, w'.cell? ⟨g, 0 + j, none⟩ = (Lib.byteCells l)[j]? := fun j => by
    have h : w'.heap[g]? = some (.cells (Lib.byteCells l).toArray 5 (0, 0)) := hr
    simp [World.cell?, h]
  refine ⟨_, rfl, ⟨by rw [Lib.byteCells_length, Nat.mul_one], .inr ⟨g, 0, l.length, rfl, hg, hr.lt, Nat.le_refl _, fun j u hj => by rw [hcell, hj], fun j hj => ⟨?_, hr.free _⟩⟩⟩, hb⟩
  rw [hcell, List.getElem?_eq_getElem (by rw [Lib.byteCells_length]; omega)]; rfl
/-- What such a value reads as. -/
theorem Buf.bys {w : World} {base : Nat} {v : Value} {l : List UInt8} (h : Buf w base 1 v l.length (Lib.byteCells l)) : ∃ p cap, v = .slice p l.length cap ∧ l.length ≤ cap ∧ Bys w w.heap.size p l := by
  rcases h.2 with ⟨rfl, h0⟩ | ⟨g, off, cap, rfl, hg, hlt, hnc, hc, hf⟩
  · have : l = [] := List.eq_nil_of_length_eq_zero h0
    subst this
    exact ⟨none, 0, rfl, Nat.le_refl _, Bys.nil _ _ _⟩
  · exact ⟨_, cap, rfl, hnc, fun _ => ⟨g, off, rfl, hlt, fun i hi => hc i _ (by simp [Lib.byteCells, hi])⟩⟩
theorem src_bys {w : World} {B : Nat} {p : Option Addr} {l : List UInt8} (h : Bys w B p l) : Src w 1 p l.length (Lib.byteCells l) := by
  refine ⟨by rw [Lib.byteCells_length, Nat.mul_one], Lib.byteCells_one l, fun h0 => ?_⟩
  obtain ⟨b, o, rfl, _, hc⟩ := h h0
  refine ⟨_, rfl, fun j u hj => ?_⟩
  have hj' : j < l.length := by have := (List.getElem?_eq_some_iff.1 hj).1; simpa [Lib.byteCells] using this
  rw [Go.WideShapes.add_plain, hc j hj']
  simpa [Lib.byteCells, hj'] using hj

theorem byteCells_at (l : List UInt8) (j : Nat) (h : j < l.length) : (Lib.byteCells l)[j]? = some (.int .u8 (l[j].toNat : Int)) := by simp [Lib.byteCells, h]
/-- '[]byte(s)'. -/
theorem conv_new (w : World) (s : ByteArray) : ∃ v w', (convert 9 26 (.string s)).run Tryd.prog w = .ok v w' ∧ Buf w' w.heap.size 1 v s.size (Lib.byteCells s.data.toList) ∧ Below w.heap.size w w' := by
  have hrun := Lib.run_convert_string_bytes (P := Tryd.prog) w 9 26 5 s Tryd.underlying9 Tryd.underlying26 Tryd.underlying5
  refine ⟨_, _, hrun, ⟨by rw [Lib.byteCells_length, Array.length_toList, Nat.mul_one]; rfl, .inr ⟨_, 0, _, rfl, Nat.le_refl _, by rw [Lib.bytesWorld_size]; omega, ?_, fun j u hj => ?_, fun j hj => ?_⟩⟩, Lib.bytesWorld_below w 5 s⟩
  · exact grownCap_ge w s.size 0 5
  · have hj' : j < s.data.toList.length := by have := (List.getElem?_eq_some_iff.1 hj).1; simpa [Lib.byteCells] using this
    rw [Nat.zero_add, (bytesAt_conv w 5 s j hj').1, ← byteCells_at _ j hj']
    exact hj
  · have hat := Lib.bytesWorld_at_new w 5 s
    have hge := grownCap_ge w s.size 0 5
    have hsz : (Lib.bytesCells w 5 s).size = grownCap w s.size 0 5 := by simp [Lib.bytesCells]; omega
    rw [Nat.mul_one] at hj
    rw [Nat.zero_add]
    refine ⟨?_, ?_⟩
    · simp only [World.cell?, hat]
      rw [Array.getElem?_eq_getElem (by rw [hsz]; exact hj)]; rfl
    · simp only [World.frozen?, hat, hsz]
      simp
      omega

theorem lit_str (D : ByteArray) (n : Nat) (h : D = ofL (Lib.decDigits n)) : (({ data := #[123] } : ByteArray) ++ D ++ { data := #[125, 13, 10] }).data.toList = litH n := by
  subst h
  simp only [ByteArray.data_append, Array.toList_append, ofL_data]
  simp [litH]

theorem best_spec {l : List UInt8} {x : List UInt8} (h : quoB l = some x) : bestB l = x := by unfold bestB; rw [h]; rfl
theorem best_spec' {l : List UInt8} (h : quoB l = none) : bestB l = litB l := by unfold bestB; rw [h]; rfl
theorem quoV_none : quoV none = .tuple #[.string ⟨#[]⟩, .bool false] := rfl
theorem quoV_some (x : List UInt8) : quoV (some x) = .tuple #[.string (ofL x), .bool true] := rfl

end Go.Proofs.YtllboenffepcgaaDoor
namespace Go.Proofs.YtllboenffepcgaaDoor
open Go.RowKit

def annV (o : Option Nat) : Value := .tuple #[.int .i64 ((o.getD 0 : Nat) : Int), .bool o.isSome]
theorem annV_none : annV none = .tuple #[.int .i64 0, .bool false] := rfl
theorem annV_some (u : Nat) : annV (some u) = .tuple #[.int .i64 (u : Int), .bool true] := rfl

theorem lastIx_take {c : UInt8} {l : List UInt8} {i : Nat} (h : lastIx c l = some i) : ∃ (hi : i < l.length), l[i] = c ∧ ∀ j (hj : j < l.length), i < j → l[j] ≠ c := by
  obtain ⟨a, b, rfl, rfl, hb⟩ := lastIx_split h
  refine ⟨by simp, by simp, fun j hj hij e => hb ?_⟩
  obtain ⟨m, rfl⟩ : ∃ m, j = a.length + (m + 1) := ⟨j - a.length - 1, by omega⟩
  have h1 : (a ++ c :: b)[a.length + (m + 1)]? = b[m]? := by
    rw [List.getElem?_append_right (Nat.le_add_right _ _), Nat.add_sub_cancel_left]; rfl
  rw [List.getElem?_eq_getElem hj, e] at h1
  exact List.mem_of_getElem? h1.symm
def ixV (o : Option Nat) : Int := match o with
  | none => -1
  | some i => (i : Int)

set_option maxRecDepth 100000 in
set_option maxHeartbeats 800000 in
theorem lastByte_any (p : Option Addr) (cap : Nat) (l : List UInt8) (c : UInt8) (w : World) (B : Nat) (h : Bys w B p l) (hl : l.length ≤ 1048576) :
    Calls Tryd.prog 55 #[.slice p l.length cap, .int .u8 (c.toNat : Int)] w fun e w' => e = .returned (.int .i64 (ixV (lastIx c l))) ∧ w' = w := by
  obtain ⟨o, ho⟩ : ∃ o, lastIx c l = o := ⟨_, rfl⟩
  have HO := Lib.hid ho
  rw [ho]
  clear ho
  generalize hcv : (c.toNat : Int) = cv
  have HCV := Lib.hid hcv
  clear hcv
  go_enter Tryd.func55, Tryd.ntmps55
  go_wp2_with fail
  go_loop [5] (fun i => ∃ k : Nat, k ≤ l.length ∧ i = .int .i64 ((k : Int) - 1) ∧ ∀ j (hj : j < l.length), k ≤ j → l[j] ≠ c) (fun i => (intOf i + 1).toNat)
  case atStart => exact ⟨l.length, Nat.le_refl _, rfl, fun j hj h => absurd hj (by omega)⟩
  case round =>
    obtain ⟨k, hk, rfl, hall⟩ := hrel
    have HA := Lib.hid hall
    clear hall
    by_cases h0 : 0 < k
    · obtain ⟨k, rfl⟩ : ∃ m, k = m + 1 := ⟨k - 1, by omega⟩
      have e1 : ((k + 1 : Nat) : Int) - 1 = (k : Int) := by omega
      rw [e1]
      obtain ⟨b, off, rfl, hbl, hc⟩ := h (by omega)
      have hce : w.cell? ⟨b, off + k, none⟩ = some (.int .u8 (l[k].toNat : Int)) := hc k (by omega)
      have hi0 : (0 : Int) ≤ k := by omega
      have hi1 : (k : Int) < l.length := by omega
      clear hc h e1
      by_cases he : l[k] = c
      · have R : Hid (o = some k) := Lib.hid (by
          rw [← HO.out]
          cases hL : lastIx c l with
          | none => exact absurd (by rw [← he]; exact List.getElem_mem _) (lastIx_none' hL)
          | some i =>
            obtain ⟨hi, hic, hj⟩ := lastIx_take hL
            congr 1
            rcases Nat.lt_trichotomy i k with h | h | h
            · exact absurd he (hj k (by omega) h)
            · exact h
            · exact absurd hic (HA.out i hi (by omega)))
        have hb : ((l[k].toNat : Int) == cv) = true := by rw [beq_iff_eq, ← HCV.out, he]
        clear he
        go_wp2_with fail
        go_ret
        exact ⟨by rw [R.out]; rfl, rfl⟩
      · have hb : ((l[k].toNat : Int) == cv) = false := by
          rw [beq_eq_false_iff_ne, ← HCV.out]
          intro e
          exact he (UInt8.toNat_inj.1 (by omega))
        have HA2 : Hid (∀ j (hj : j < l.length), k ≤ j → l[j] ≠ c) := Lib.hid fun j hj h => by
          rcases Nat.lt_or_eq_of_le h with h | h
          · exact HA.out j hj h
          · subst h; exact he
        clear he
        go_wp2_with fail
        go_round
        case rel => exact ⟨k, by omega, rfl, HA2.out⟩
        case measure => simp [intOf]
    · obtain rfl : k = 0 := by omega
      have R : Hid (o = none) := Lib.hid (by
        rw [← HO.out]
        cases hL : lastIx c l with
        | none => rfl
        | some i =>
          obtain ⟨hi, hic, _⟩ := lastIx_take hL
          exact absurd hic (HA.out i hi (by omega)))
      go_wp2_with fail
      go_ret
      exact ⟨by rw [R.out]; rfl, rfl⟩

theorem lastIndex_any (p : Option Addr) (cap : Nat) (l : List UInt8) (c : UInt8) (v : Int) (hv : (c.toNat : Int) = v) (w : World) (B : Nat) (h : Bys w B p l) (hl : l.length ≤ 1048576) :
    Calls Tryd.prog 39 #[.slice p l.length cap, .int .u8 v] w fun e w' => e = .returned (.int .i64 (ixV (lastIx c l))) ∧ w' = w := by
  subst hv
  have H := Lib.hid (lastByte_any p cap l c w B h hl)
  clear h
  generalize ixV (lastIx c l) = x at *
  go_enter Tryd.func39, Tryd.ntmps39
  go_wp2_with (go_at_call 55; refine H.out.mono ?_; rintro e w' ⟨rfl, rfl⟩)
  go_ret
  exact ⟨rfl, rfl⟩

theorem bytesOf_ints (l : List UInt8) : Lib.bytesOf (ints l) = l := by
  simp only [Lib.bytesOf, ints, List.map_map]
  conv => rhs; rw [← List.map_id l]
  exact List.map_congr_left fun b _ => by simp
theorem suffix_one (l : List UInt8) (c : UInt8) : Lib.hasSuffix l [c] = decide (l.getLast? = some c) := by
  unfold Lib.hasSuffix
  rw [Bool.eq_iff_iff, List.isSuffixOf_iff_suffix, decide_eq_true_eq]
  constructor
  · rintro ⟨t, rfl⟩; simp
  · intro h
    cases hl : l.reverse with
    | nil => rw [List.reverse_eq_nil_iff] at hl; subst hl; cases h
    | cons x r =>
      have e : l = r.reverse ++ [x] := by rw [← List.reverse_reverse l, hl, List.reverse_cons]
      subst e
      simp at h
      subst h
      exact ⟨_, rfl⟩

theorem cut_one (p : Option Addr) (cap : Nat) (l : List UInt8) (q : Option Addr) (d : Nat) (c : UInt8) (w : World) (B B' : Nat) (h : Bys w B p l) (h2 : Bys w B' q [c]) (hl : l.length ≤ 1048576) (hcap : l.length ≤ cap) :
    Calls Tryd.prog 38 #[.slice p l.length cap, .slice q 1 d] w fun e w' => e = .returned (.tuple #[.slice p (if l.getLast? = some c then l.length - 1 else l.length) cap, .bool (decide (l.getLast? = some c))]) ∧ w' = w := by
  refine (Tryd.bytes_CutSuffix_all p q l.length cap 1 d (ints l) (ints [c]) w (ints_length l) rfl hcap (by omega) h.ints_in h2.ints_in).mono ?_
  rintro e w' ⟨rfl, rfl⟩
  rw [bytesOf_ints, bytesOf_ints, suffix_one]
  refine ⟨?_, rfl⟩
  have hb : ∀ b o, Lib.bytesTrimSuffix b o l.length cap (ints l) (ints [c]) = .slice (some ⟨b, o, none⟩) (if l.getLast? = some c then l.length - 1 else l.length) cap := fun b o => by
    unfold Lib.bytesTrimSuffix
    rw [bytesOf_ints, bytesOf_ints, suffix_one]
    by_cases hx : l.getLast? = some c
    · simp [hx, ints, Lib.sliceTo]
    · simp [hx]
  by_cases h0 : 0 < l.length
  · obtain ⟨b, o, rfl, _⟩ := h h0
    have e : Lib.trimSuffixV (some ⟨b, o, none⟩) l.length cap (ints l) (ints [c]) = Lib.bytesTrimSuffix b o l.length cap (ints l) (ints [c]) := rfl
    rw [e, hb]
  · have hl0 : l = [] := List.eq_nil_of_length_eq_zero (by omega)
    subst hl0
    rcases p with _ | ⟨b, o, s⟩
    · rfl
    · cases s with
      | none =>
        have e : Lib.trimSuffixV (some ⟨b, o, none⟩) ([] : List UInt8).length cap (ints []) (ints [c]) = Lib.bytesTrimSuffix b o ([] : List UInt8).length cap (ints []) (ints [c]) := rfl
        rw [e, hb]
      | some s => rfl

theorem annP_not (l : List UInt8) (h : ¬ l.getLast? = some 125) : annP l = none := by unfold annP; rw [if_neg h]
theorem annP_no (l : List UInt8) (h : l.getLast? = some 125) (hi : lastIx 123 l.dropLast = none) : annP l = none := by unfold annP; rw [if_pos h, hi]
theorem annP_at (l : List UInt8) (h : l.getLast? = some 125) (i : Nat) (hi : lastIx 123 l.dropLast = some i) : annP l = numB (l.dropLast.drop (i + 1)) := by unfold annP; rw [if_pos h, hi]
theorem last_pos {l : List UInt8} {c : UInt8} (h : l.getLast? = some c) : 0 < l.length := by cases l with | nil => cases h | cons a l => simp
theorem dropLast_bys {w : World} {B : Nat} {p : Option Addr} {l : List UInt8} (h : Bys w B p l) : Bys w B p l.dropLast := by
  rw [List.dropLast_eq_take]; exact h.upto _

set_option maxRecDepth 100000 in
set_option maxHeartbeats 800000 in
theorem announced_any (p : Option Addr) (cap : Nat) (l : List UInt8) (w : World) (h : Bys w w.heap.size p l) (hl : l.length ≤ 1048576) (hcap : l.length ≤ cap) (hS : Std w) :
    Calls Tryd.prog 25 #[.slice p l.length cap] w fun e w' => e = .returned (annV (annP l)) ∧ Below w.heap.size w w' := by
  have hb0 : Below w.heap.size w (w.alloc (.cells #[.int .u8 125] 5 (1, 2))) := (Below.refl _ _).alloc (Nat.le_refl _) _
  have hq : Bys (w.alloc (.cells #[.int .u8 125] 5 (1, 2))) (w.heap.size + 1) (some ⟨w.heap.size, 0, none⟩) [125] := fun _ => ⟨w.heap.size, 0, rfl, by omega, fun i hi => by
    obtain rfl : i = 0 := by simpa using hi
    have hh := heap_alloc_new w (.cells #[.int .u8 125] 5 (1, 2))
    simp only [World.cell?, hh]; rfl⟩
  have kc := fun (w : World) (C : Array Value) (n c : Nat) => Lib.run_convert_bytes_const (P := Tryd.prog) w 26 5 C n c Tryd.underlying26 Tryd.underlying5
  have h1 := h.below hb0
  have H54 := Lib.hid (cut_one p cap l (some ⟨w.heap.size, 0, none⟩) 1 125 _ _ _ h1 hq hl hcap)
  have hdl := dropLast_bys h1
  have hlen : l.dropLast.length = l.length - 1 := by simp
  have H55 := Lib.hid (lastIndex_any p cap l.dropLast 123 123 rfl _ _ hdl (by omega))
  rw [hlen] at H55
  by_cases hx : l.getLast? = some 125
  · simp only [hx, decide_true, if_true] at H54
    have hpos := last_pos hx
    cases hi : lastIx 123 l.dropLast with
    | none =>
      rw [annP_no l hx hi, annV_none]
      simp only [hi, ixV] at H55
      clear hx hi h h1 hdl hq hS hlen
      go_enter Tryd.func25, Tryd.ntmps25
      go_wp2_with fail
      refine H54.out.mono ?_
      rintro e w1 ⟨rfl, rfl⟩
      go_wp2_with fail
      refine H55.out.mono ?_
      rintro e w1 ⟨rfl, rfl⟩
      go_wp2_with fail
      go_ret2
      exact ⟨rfl, hb0⟩
    | some i =>
      have hil := (lastIx_take hi).1
      rw [hlen] at hil
      rw [annP_at l hx i hi]
      simp only [hi, ixV] at H55
      have hcut := hdl.from (i + 1)
      have hcl : (l.dropLast.drop (i + 1)).length = l.length - 1 - (i + 1) := by rw [List.length_drop, hlen]
      have hcv := fun c => conv_bys (P := Tryd.prog) hcut c Tryd.underlying26 Tryd.underlying5 Tryd.underlying9
      rw [hcl] at hcv
      have H56 := Lib.hid (number_any (ofL (l.dropLast.drop (i + 1))) _ (by show (l.dropLast.drop (i + 1)).toArray.size ≤ _; rw [List.size_toArray, hcl]; omega) (hS.below hb0))
      rw [ofL_data] at H56
      obtain ⟨b, off, rfl, _⟩ := h (by omega)
      rw [Option.map_some, Go.WideShapes.add_plain] at hcv
      have HCV := Lib.hid hcv
      have hvl : (numB (l.dropLast.drop (i + 1))).getD 0 < 4294967296 := by
        cases h : numB (l.dropLast.drop (i + 1)) with
        | none => decide
        | some u => exact numB_le h
      cases hn : numB (l.dropLast.drop (i + 1))
      all_goals
        simp only [hn, numV_none, numV_some, annV_none, annV_some, Option.getD_none, Option.getD_some] at H56 hvl ⊢
        have hc1 : (i : Int) + 1 ≤ (l.length : Int) - 1 := by omega
        clear hx hi h h1 hdl hq hS hlen hcut hcl hcv hn
        go_enter Tryd.func25, Tryd.ntmps25
        go_wp2_with fail
        refine H54.out.mono ?_
        rintro e w1 ⟨rfl, rfl⟩
        go_wp2_with fail
        refine H55.out.mono ?_
        rintro e w1 ⟨rfl, rfl⟩
        go_wp2_with fail
        rw [HCV.out]
        simp only [Result.andThen]
        rw [Oper.upon_value]
        go_wp2_with fail
        refine H56.out.mono ?_
        rintro e w2 ⟨rfl, hb2⟩
        have a2 := hb0.trans (hb2.mono hb0.size)
        go_wp2_with fail
        go_ret2
        exact ⟨rfl, a2⟩
  · simp only [hx, decide_false, if_false] at H54
    rw [annP_not l hx, annV_none]
    clear hx h h1 hdl hq hS hlen H55
    go_enter Tryd.func25, Tryd.ntmps25
    go_wp2_with fail
    refine H54.out.mono ?_
    rintro e w1 ⟨rfl, rfl⟩
    go_wp2_with fail
    go_ret2
    exact ⟨rfl, hb0⟩
end Go.Proofs.YtllboenffepcgaaDoor
namespace Go.Proofs.YtllboenffepcgaaDoor
open Go.RowKit

theorem digStart_zero {m : List UInt8} (h : m.all digitB = true) : digStart m = 0 := by
  cases m with
  | nil => rfl
  | cons x m => unfold digStart; rw [if_pos h]
theorem digStart_at {m : List UInt8} {j : Nat} (hj : j < m.length) (h : (m.drop (j + 1)).all digitB = true) (hn : digitB m[j] = false) : digStart m = j + 1 := by
  have e : m = m.take j ++ m[j] :: m.drop (j + 1) := by
    rw [← List.drop_eq_getElem_cons hj, List.take_append_drop]
  have := digStart_mk h (m.take j) m[j] hn
  rw [← e, List.length_take, Nat.min_eq_left (by omega)] at this
  exact this
theorem annR_not (l : List UInt8) (h : ¬ l.getLast? = some 125) : annR l = none := by unfold annR; rw [if_neg h]
theorem annR_none (l : List UInt8) (h : l.getLast? = some 125) (k : Nat) (hk : digStart l.dropLast = k) (hn : numB (l.dropLast.drop k) = none) : annR l = none := by
  unfold annR; rw [if_pos h, hk, hn]
theorem annR_some (l : List UInt8) (h : l.getLast? = some 125) (k : Nat) (hk : digStart l.dropLast = k) (x : Nat) (hn : numB (l.dropLast.drop k) = some x) : annR l = if 0 < k ∧ l.dropLast[k - 1]? = some 123 then some x else none := by
  unfold annR; rw [if_pos h, hk, hn]
theorem last_get {l : List UInt8} (h : 0 < l.length) : l.getLast? = some (l[l.length - 1]'(by omega)) := by
  rw [List.getLast?_eq_getElem?, List.getElem?_eq_getElem]

set_option maxRecDepth 100000 in
theorem rAnn_empty (p : Option Addr) (cap : Nat) (w : World) :
    Calls Tryd.prog 36 #[.slice p 0 cap] w fun e w' => e = .returned (.tuple #[.int .i64 0, .bool false]) ∧ w' = w := by
  go_enter Tryd.func36, Tryd.ntmps36
  go_wp2_with fail
  go_ret2
  exact ⟨rfl, rfl⟩

set_option maxRecDepth 100000 in
set_option maxHeartbeats 1600000 in
theorem rAnnounced_any (p : Option Addr) (cap : Nat) (l : List UInt8) (w : World) (h : Bys w w.heap.size p l) (hl : l.length ≤ 1048576) (hcap : l.length ≤ cap) :
    Calls Tryd.prog 36 #[.slice p l.length cap] w fun e w' => e = .returned (annV (annR l)) ∧ w' = w := by
  by_cases h0 : 0 < l.length
  · obtain ⟨n, hn⟩ : ∃ n, l.length = n + 1 := ⟨l.length - 1, by omega⟩
    obtain ⟨b, off, rfl, hbl, hc⟩ := h h0
    have hlast := last_get h0
    have hm : l.dropLast.length = n := by rw [List.length_dropLast]; omega
    have hcl : w.cell? ⟨b, off + n, none⟩ = some (.int .u8 (l[n].toNat : Int)) := hc n (by omega)
    have hcm : ∀ j, j < n → ∃ x, (l.dropLast)[j]? = some x ∧ w.cell? ⟨b, off + j, none⟩ = some (.int .u8 (x.toNat : Int)) := fun j hj =>
      ⟨l[j]'(by omega), by rw [List.getElem?_dropLast, if_pos (by omega), List.getElem?_eq_getElem], hc j (by omega)⟩
    clear hc
    by_cases hx : l.getLast? = some 125
    · have hx' : l[n] = 125 := by
        rw [hlast] at hx; injection hx with hx
        rw [← hx]; congr 1; omega
      rw [hx'] at hcl
      have hdl := dropLast_bys h
      have HA := Lib.hid (annR_none l hx)
      have HB := Lib.hid (annR_some l hx)
      generalize annR l = o at *
      generalize l.dropLast = m at hdl HA HB hcm hm
      have HC := Lib.hid hcm
      have HM := Lib.hid hm
      have HD := Lib.hid hdl
      clear hx hx' hlast hdl hcm h hm
      rw [hn]
      have hn1 : n + 1 ≤ 1048576 := by omega
      have hn2 : n + 1 ≤ cap := by omega
      clear hn hl hcap h0
      have hc0 : (0 : Int) ≤ n := by omega
      go_enter Tryd.func36, Tryd.ntmps36
      go_wp2_with fail
      go_loop [5] (fun i => ∃ k : Nat, k ≤ n ∧ i = .int .i64 (k : Int) ∧ (m.drop k).all digitB = true) (fun i => (intOf i).toNat)
      case atStart => exact ⟨n, Nat.le_refl _, by go_num, by rw [List.drop_of_length_le (by rw [HM.out]; exact Nat.le_refl _)]; rfl⟩
      case round =>
        obtain ⟨k, hk, rfl, ha⟩ := hrel
        have A := Lib.hid ha
        clear ha
        by_cases h0 : 0 < k
        · obtain ⟨k, rfl⟩ : ∃ j, k = j + 1 := ⟨k - 1, by omega⟩
          obtain ⟨x, hmx, hce⟩ := HC.out k (by omega)
          have HX := Lib.hid hmx
          clear hmx
          have hu := x.toNat_lt
          have hk0 : (0 : Int) ≤ k := by omega
          have hk1 : (k : Int) < n + 1 := by omega
          by_cases h1 : 48 ≤ x.toNat
          · by_cases h2 : x.toNat ≤ 57
            · have HA2 : Hid ((m.drop k).all digitB = true) := Lib.hid (by
                obtain ⟨hj, e⟩ := List.getElem?_eq_some_iff.1 HX.out
                rw [List.drop_eq_getElem_cons hj, List.all_cons, A.out, e]
                simp [digitB, h1, h2])
              go_wp2_with fail
              go_round
              case rel => exact ⟨k, by omega, by go_num, HA2.out⟩
              case measure => simp [intOf]
            · have hds : digStart m = k + 1 := by
                obtain ⟨hj, e⟩ := List.getElem?_eq_some_iff.1 HX.out
                exact digStart_at hj A.out (by rw [e]; simp [digitB, h2])
              have hcut := HD.out.from (k + 1)
              have hcl2 : (m.drop (k + 1)).length = n - (k + 1) := by rw [List.length_drop, HM.out]
              have hcv := fun c => conv_bys (P := Tryd.prog) hcut c Tryd.underlying26 Tryd.underlying5 Tryd.underlying9
              rw [hcl2, Option.map_some, Go.WideShapes.add_plain] at hcv
              have HCV := Lib.hid hcv
              have H57 := Lib.hid (rNumber_any (ofL (m.drop (k + 1))) w (by show (m.drop (k + 1)).toArray.size ≤ _; rw [List.size_toArray, hcl2]; unfold maxLen; omega))
              rw [ofL_data] at H57
              have e0 : ((k : Int) + 1 == 0) = false := by rw [beq_eq_false_iff_ne]; omega
              clear hcut hcv hcl2
              cases hnb : numB (m.drop (k + 1)) with
              | none =>
                have R := Lib.hid (HA.out _ hds hnb)
                simp only [hnb, numV_none] at H57
                clear hnb hds
                go_wp2_with fail
                rw [HCV.out]
                simp only [Result.andThen]
                rw [Oper.upon_value]
                go_wp2_with fail
                refine H57.out.mono ?_
                rintro e w2 ⟨rfl, rfl⟩
                go_wp2_with fail
                go_ret2
                exact ⟨by rw [R.out]; rfl, rfl⟩
              | some v =>
                have hv := numB_le hnb
                have hB := HB.out _ hds v hnb
                rw [Nat.add_sub_cancel, HX.out] at hB
                simp only [hnb, numV_some] at H57
                by_cases h123 : x = 123
                · have R : Hid (o = some v) := Lib.hid (by rw [hB, if_pos ⟨Nat.succ_pos _, by rw [h123]⟩])
                  have e1 : (x.toNat : Int) = 123 := by rw [h123]; rfl
                  rw [e1] at hce
                  clear hnb hds hB h123 e1 hu h1
                  go_wp2_with fail
                  rw [HCV.out]
                  simp only [Result.andThen]
                  rw [Oper.upon_value]
                  go_wp2_with fail
                  refine H57.out.mono ?_
                  rintro e w2 ⟨rfl, rfl⟩
                  go_wp2_with fail
                  go_ret2
                  exact ⟨by rw [R.out]; rfl, rfl⟩
                · have R : Hid (o = none) := Lib.hid (by rw [hB, if_neg (fun h => h123 (by injection h.2))])
                  have e1 : ((x.toNat : Int) != 123) = true := by
                    rw [bne_iff_ne]; intro e; exact h123 (UInt8.toNat_inj.1 (by show x.toNat = 123; omega))
                  clear hnb hds hB h123
                  go_wp2_with fail
                  rw [HCV.out]
                  simp only [Result.andThen]
                  rw [Oper.upon_value]
                  go_wp2_with fail
                  refine H57.out.mono ?_
                  rintro e w2 ⟨rfl, rfl⟩
                  go_wp2_with fail
                  go_ret2
                  exact ⟨by rw [R.out]; rfl, rfl⟩
          · have hds : digStart m = k + 1 := by
              obtain ⟨hj, e⟩ := List.getElem?_eq_some_iff.1 HX.out
              exact digStart_at hj A.out (by rw [e]; simp [digitB, h1])
            have hcut := HD.out.from (k + 1)
            have hcl2 : (m.drop (k + 1)).length = n - (k + 1) := by rw [List.length_drop, HM.out]
            have hcv := fun c => conv_bys (P := Tryd.prog) hcut c Tryd.underlying26 Tryd.underlying5 Tryd.underlying9
            rw [hcl2, Option.map_some, Go.WideShapes.add_plain] at hcv
            have HCV := Lib.hid hcv
            have H57 := Lib.hid (rNumber_any (ofL (m.drop (k + 1))) w (by show (m.drop (k + 1)).toArray.size ≤ _; rw [List.size_toArray, hcl2]; unfold maxLen; omega))
            rw [ofL_data] at H57
            have e0 : ((k : Int) + 1 == 0) = false := by rw [beq_eq_false_iff_ne]; omega
            clear hcut hcv hcl2
            cases hnb : numB (m.drop (k + 1)) with
            | none =>
              have R := Lib.hid (HA.out _ hds hnb)
              simp only [hnb, numV_none] at H57
              clear hnb hds
              go_wp2_with fail
              rw [HCV.out]
              simp only [Result.andThen]
              rw [Oper.upon_value]
              go_wp2_with fail
              refine H57.out.mono ?_
              rintro e w2 ⟨rfl, rfl⟩
              go_wp2_with fail
              go_ret2
              exact ⟨by rw [R.out]; rfl, rfl⟩
            | some v =>
              have hv := numB_le hnb
              have hB := HB.out _ hds v hnb
              rw [Nat.add_sub_cancel, HX.out] at hB
              simp only [hnb, numV_some] at H57
              by_cases h123 : x = 123
              · have R : Hid (o = some v) := Lib.hid (by rw [hB, if_pos ⟨Nat.succ_pos _, by rw [h123]⟩])
                have e1 : (x.toNat : Int) = 123 := by rw [h123]; rfl
                rw [e1] at hce
                clear hnb hds hB h123 e1 hu h1
                go_wp2_with fail
                rw [HCV.out]
                simp only [Result.andThen]
                rw [Oper.upon_value]
                go_wp2_with fail
                refine H57.out.mono ?_
                rintro e w2 ⟨rfl, rfl⟩
                go_wp2_with fail
                go_ret2
                exact ⟨by rw [R.out]; rfl, rfl⟩
              · have R : Hid (o = none) := Lib.hid (by rw [hB, if_neg (fun h => h123 (by injection h.2))])
                have e1 : ((x.toNat : Int) != 123) = true := by
                  rw [bne_iff_ne]; intro e; exact h123 (UInt8.toNat_inj.1 (by show x.toNat = 123; omega))
                clear hnb hds hB h123
                go_wp2_with fail
                rw [HCV.out]
                simp only [Result.andThen]
                rw [Oper.upon_value]
                go_wp2_with fail
                refine H57.out.mono ?_
                rintro e w2 ⟨rfl, rfl⟩
                go_wp2_with fail
                go_ret2
                exact ⟨by rw [R.out]; rfl, rfl⟩
        · obtain rfl : k = 0 := by omega
          have hds : digStart m = 0 := digStart_zero A.out
          have hcv := fun c => conv_bys (P := Tryd.prog) HD.out c Tryd.underlying26 Tryd.underlying5 Tryd.underlying9
          rw [HM.out] at hcv
          have HCV := Lib.hid hcv
          have H57 := Lib.hid (rNumber_any (ofL m) w (by show m.toArray.size ≤ _; rw [List.size_toArray, HM.out]; unfold maxLen; omega))
          rw [ofL_data] at H57
          clear hcv
          have R : Hid (o = none) := Lib.hid (by
            cases hnb : numB (m.drop 0) with
            | none => exact HA.out _ hds hnb
            | some v => rw [HB.out _ hds v hnb, if_neg (by omega)])
          cases hnb : numB m
          all_goals
            simp only [hnb, numV_none, numV_some] at H57
            clear hnb hds
            go_wp2_with fail
            rw [HCV.out]
            simp only [Result.andThen]
            rw [Oper.upon_value]
            go_wp2_with fail
            refine H57.out.mono ?_
            rintro e w2 ⟨rfl, rfl⟩
            go_wp2_with fail
            go_ret2
            exact ⟨by rw [R.out]; rfl, rfl⟩
    · have R := Lib.hid (annR_not l hx)
      have hx' : l[n] ≠ 125 := by
        intro e
        apply hx
        rw [hlast, ← e]; congr 2; omega
      have e1 : ((l[n].toNat : Int) != 125) = true := by
        rw [bne_iff_ne]; intro e; exact hx' (UInt8.toNat_inj.1 (by show l[n].toNat = 125; omega))
      generalize annR l = o at *
      generalize l[n] = x at hcl e1
      rw [hn]
      clear hx hx' hlast hcm h hm
      have hn1 : n + 1 ≤ 1048576 := by omega
      clear hn hl hcap h0
      have hc0 : (0 : Int) ≤ n := by omega
      have hc1 : (n : Int) < n + 1 := by omega
      go_enter Tryd.func36, Tryd.ntmps36
      go_wp2_with fail
      go_ret2
      exact ⟨by rw [R.out]; rfl, rfl⟩
  · obtain rfl : l = [] := List.eq_nil_of_length_eq_zero (by omega)
    exact rAnn_empty p cap w
end Go.Proofs.YtllboenffepcgaaDoor
