/- What the statements' rows list, as the walks take it: the library's variables that the code reads. · The walks of package char: Decimal and Number, over the contracts of the library's strconv. · The walk of package char's Number. · The walks of package quote: Quoted; and its reference. · The walks of the reference of package quote: Quoted. · A slice that the call itself has made and appends to: what it holds, what keeps it, and append onto it from whatever source. · The walks of package quote: Literal and Best; and their references. · The walks of package quote: Announced; and its reference. · The walk of the reference of package quote: Announced. · The walk of the example of chapter 04. · The walk of slices.Equal over bytes: it only reads. · The walk of slices.Equal over bytes. -/
import Derived.Test.YtgdhakkfddmkjaaDoorProg
import Derived.Test.YtgdhakkfddmkjaaDoorJ0
import Derived.Lib.SmallJoins
import Derived.Lib.LaidTab
import Derived.Lib.Space
import Derived.Lib.ItoaNum
import Derived.Test.YtgdhakkfddmkjaaDoorJ1
import Derived.Test.YtgdhakkfddmkjaaDoorShelf
import Derived.Lib.ItoaMem
import Derived.Lib.ParseIntBCases
import Derived.ArgAppend
import Derived.OwnWalk
import Derived.OneCell
import Derived.Lib.BufferWrite
import Derived.Laws.CopyOwn
import Derived.Lib.SlBytesConst
set_option linter.unusedVariables false
set_option linter.unusedSimpArgs false
namespace Go.Proofs.YtgdhakkfddmkjaaDoor
open Go.RowKit

theorem cell_stays {w w' : World} {a : Addr} {v : Value} (h : w.cell? a = some v) (hb : Below w.heap.size w w') : w'.cell? a = some v := by
  have hlt : a.block < w.heap.size := by
    by_cases hl : a.block < w.heap.size
    · exact hl
    · exfalso
      unfold World.cell? at h
      rw [Array.getElem?_eq_none (by omega)] at h
      cases h
  rw [hb.cell hlt]; exact h

/-- The variables of strconv. -/
structure Std (w : World) : Prop where
  tab : Lib.TabIs Tryd.prog w "internal/strconv.uint64pow10" .u64 Lib.pow10Tab
theorem gTab : Tryd.prog.globalNamed "internal/strconv.uint64pow10" = some 2 := by kernel_rfl
theorem Std.below {w w' : World} (h : Std w) (hb : Below w.heap.size w w') : Std w' := {
  tab := Go.Joins.tab_stays gTab h.tab hb (Nat.le_refl _)
}

/-- The variables of strings. -/
structure StdA (w : World) : Prop where
  asc : Lib.TabIs Tryd.prog w "strings.asciiSpace" .u8 Lib.asciiSpaceTab
  mx : ∃ m, w.cell? ⟨3, 0, none⟩ = some (.int .i64 m)
theorem gAsc : Tryd.prog.globalNamed "strings.asciiSpace" = some 0 := by kernel_rfl
theorem StdA.below {w w' : World} (h : StdA w) (hb : Below w.heap.size w w') : StdA w' := {
  asc := Go.Joins.tab_stays gAsc h.asc hb (Nat.le_refl _)
  mx := let ⟨m, e⟩ := h.mx; ⟨m, cell_stays e hb⟩
}
end Go.Proofs.YtgdhakkfddmkjaaDoor
namespace Go.Proofs.YtgdhakkfddmkjaaDoor
open Go.RowKit Go.Sort

theorem grow_below (w : World) (k : Nat) (os : Array Obj) : Below w.heap.size w (grow (w.drewN k) os) :=
  ⟨rfl, rfl, rfl, by show w.heap.size ≤ (w.heap ++ os).size; simp, fun j hj => by show (w.heap ++ os)[j]? = _; rw [Array.getElem?_append_left hj]⟩

theorem fin0 (w : World) (o : Obj) (dk : Array UInt8) (k : Nat) : Below w.heap.size w ((putRow (fun (b : UInt8) => Value.int .u8 (b.toNat : Int)) (w.alloc o) w.heap.size 0 dk).drewN k) := by
  rw [alloc_eq_grow]
  obtain ⟨os', _, e⟩ := putRow_grow_new (fun (b : UInt8) => Value.int .u8 (b.toNat : Int)) w #[o] w.heap.size 0 dk (Nat.le_refl _)
  rw [e]
  exact grow_below w k os'
theorem holds_zero0 (w : World) (T : TypeId) (nd : Nat) (hs : nd ≤ 24) : Holds (fun (b : UInt8) => Value.int .u8 (b.toNat : Int)) (w.alloc (.cells Lib.zeros24 T)) w.heap.size 0 (Array.replicate nd (0 : UInt8)) := fun j hj => by
  have hj' : j < nd := by simpa using hj
  refine ⟨?_, World.frozen?_alloc_new _ _ _ _⟩
  rw [World.cell?_alloc_new, Lib.zeros24_at _ (by omega), getElem!_pos _ j hj]
  simp

set_option maxRecDepth 100000 in
set_option maxHeartbeats 1600000 in
theorem fmtUint_big (u : Nat) (w : World) (h0 : ¬ u < 100) (hu64 : u < 18446744073709551616) (htab : Lib.TabIs Tryd.prog w "internal/strconv.uint64pow10" .u64 Lib.pow10Tab) :
    Calls Tryd.prog 82 #[.int .u64 u, .int .i64 10] w fun e w' => e = .returned (.string (ofL (Lib.decDigits u))) ∧ Below w.heap.size w w' := by
  have hu1 : 1 ≤ u := by omega
  have hnd20 : Lib.nDigits u ≤ 20 := by have := Lib.numDigits_eq u hu1 hu64; split at this <;> omega
  have hal : Tryd.prog.arrayLen 104 = 24 := by kernel_rfl
  have hsl : ∀ W, (Instr.sliceAt 104 (.pointer (some ⟨w.heap.size, 0, none⟩)) none (some (.int .i64 ((Lib.nDigits u : Nat) : Int))) none).run Tryd.prog W = .ok (.slice (some ⟨w.heap.size, 0, none⟩) (Lib.nDigits u) 24) W := fun W => by
    rw [run_sliceAt_array_h W 104 ⟨w.heap.size, 0, none⟩ (by simp [Program.arrayLen, Program.elem, Tryd.underlying104]) .i64 ((Lib.nDigits u : Nat) : Int) (by omega) (by rw [hal]; omega)]
    rw [hal]; rfl
  have hH0 := holds_zero0 w 104 (Lib.nDigits u) (by omega)
  have hfmt := Tryd.internal_strconv_formatBase10 w.heap.size 0 24 u (Array.replicate (Lib.nDigits u) 0) (w.alloc (.cells Lib.zeros24 104)) hH0 (by rw [Array.size_replicate]; exact Lib.lt_pow_nDigits u) hu64 (by rw [Array.size_replicate]; omega)
  rw [Array.size_replicate] at hfmt
  have HH0 := Lib.hid hH0
  have HF := Lib.hid hfmt
  have HT := Lib.hid (Lib.tabIs_alloc htab (.cells Lib.zeros24 104))
  clear hH0 hal hfmt htab
  have hlt : ¬ (u : Int) < 100 := by omega
  go_enter Tryd.func82, Tryd.ntmps82
  go_wp2_with fail
  refine (Tryd.internal_strconv_numDigits u hu1 hu64 _ HT.out).mono ?_
  rintro e w' ⟨rfl, rfl⟩
  go_wp2_with fail
  refine HF.out.mono ?_
  rintro e w' ⟨rfl, k, v', dk, rfl, hF⟩
  have hcv := run_convert_bytes_back (P := Tryd.prog) ((putRow (fun (b : UInt8) => Value.int .u8 (b.toNat : Int)) (w.alloc (.cells Lib.zeros24 104)) w.heap.size 0 dk).drewN k) 24 9 5 ⟨w.heap.size, 0, none⟩ 24 (Lib.decDigits u) Tryd.underlying24 Tryd.underlying5 Tryd.underlying9 (fun j hj => by
      rw [Lib.row_is_numeral hF j hj, Lib.add_plain, World.cell?_drewN]
      exact cell?_putRow (fun (b : UInt8) => Value.int .u8 (b.toNat : Int)) _ w.heap.size 0 _ dk HH0.out (by rw [hF.size, Array.size_replicate]) j (by rw [hF.size]; rw [Lib.decDigits_length] at hj; exact hj))
  rw [Lib.decDigits_length] at hcv
  have hfin := fin0 w (.cells Lib.zeros24 104) dk k
  generalize (putRow (fun (b : UInt8) => Value.int .u8 (b.toNat : Int)) (w.alloc (.cells Lib.zeros24 104)) w.heap.size 0 dk).drewN k = w5 at hcv hfin ⊢
  go_wp2_with fail
  go_ret
  exact ⟨rfl, hfin⟩

theorem fmtUint_any (u : Nat) (w : World) (hu64 : u < 18446744073709551616) (htab : Lib.TabIs Tryd.prog w "internal/strconv.uint64pow10" .u64 Lib.pow10Tab) :
    Calls Tryd.prog 82 #[.int .u64 u, .int .i64 10] w fun e w' => e = .returned (.string (ofL (Lib.decDigits u))) ∧ Below w.heap.size w w' := by
  by_cases h0 : u < 100
  · clear htab
    go_enter Tryd.func82, Tryd.ntmps82
    go_wp2_with (go_at_call 88; refine (Tryd.internal_strconv_small u h0 _).mono ?_; rintro e w' ⟨rfl, rfl⟩)
    go_ret
    exact ⟨rfl, Below.refl _ _⟩
  · exact fmtUint_big u w h0 hu64 htab

theorem decimal_any (n : Nat) (w : World) (hn : n < 4294967296) (hS : Std w) :
    Calls Tryd.prog 51 #[.int .u32 n] w fun e w' => e = .returned (.string (ofL (Lib.decDigits n))) ∧ Below w.heap.size w w' := by
  have H := Lib.hid (fmtUint_any n w (by omega) hS.tab)
  generalize hx : ofL (Lib.decDigits n) = x at H
  have HX := Lib.hid hx
  clear hS hx
  have h32 : Calls Tryd.prog 74 #[.int .u64 n, .int .i64 10] w fun e w' => e = .returned (.string x) ∧ Below w.heap.size w w' := by
    go_enter Tryd.func74, Tryd.ntmps74
    go_wp2_with (go_at_call 82; refine H.out.mono ?_; rintro e w' ⟨rfl, hb⟩)
    go_ret
    exact ⟨rfl, hb⟩
  have H32 := Lib.hid h32
  clear h32 H
  go_enter Tryd.func51, Tryd.ntmps51
  go_wp2_with (go_at_call 74; refine H32.out.mono ?_; rintro e w' ⟨rfl, hb⟩)
  go_ret
  exact ⟨rfl, hb⟩
end Go.Proofs.YtgdhakkfddmkjaaDoor
namespace Go.Proofs.YtgdhakkfddmkjaaDoor
open Go.RowKit

theorem numV_none : numV none = .tuple #[.int .u32 0, .bool false] := rfl
theorem numV_some (u : Nat) : numV (some u) = .tuple #[.int .u32 u, .bool true] := rfl

end Go.Proofs.YtgdhakkfddmkjaaDoor
namespace Go.Proofs.YtgdhakkfddmkjaaDoor
open Go.RowKit

theorem bld_new (w : World) : Bld w.heap.size w.heap.size [] (w.alloc (.cells #[.pointer none, .slice none 0 0] 83)) :=
  Lib.fresh_isBuilder 83 5 w

theorem text_val (c : Int) (b : Bool) (w : World) (hb : textB c = b) (hc : 0 ≤ c) (hc2 : c < 256) :
    Calls Tryd.prog 68 #[.int .u8 c] w fun e w' => e = .returned (.bool b) ∧ w' = w := by
  subst hb; exact text_any c w hc hc2
theorem rText_val (c : Int) (b : Bool) (w : World) (hb : textB c = b) (hc : 0 ≤ c) (hc2 : c < 256) :
    Calls Tryd.prog 43 #[.int .u8 c] w fun e w' => e = .returned (.bool b) ∧ w' = w := by
  subst hb; exact rText_any c w hc hc2

def quoV (o : Option (List UInt8)) : Value := match o with
  | none => .tuple #[.string ⟨#[]⟩, .bool false]
  | some x => .tuple #[.string (ofL x), .bool true]

theorem bys_byte {w : World} {B b o : Nat} {l : List UInt8} {k : Nat} (hc : ∀ i (h : i < l.length), w.cell? ⟨b, o + i, none⟩ = some (.int .u8 (l[i].toNat : Int))) (hk : k < l.length) : w.cell? ⟨b, o + k, none⟩ = some (.int .u8 (l[k].toNat : Int)) := hc k hk

theorem qesc_len (l : List UInt8) : (l.flatMap qesc).length ≤ 2 * l.length := by
  induction l with
  | nil => simp
  | cons c l ih =>
    rw [List.flatMap_cons, List.length_append, List.length_cons]
    have : (qesc c).length ≤ 2 := by unfold qesc; split <;> simp
    omega
theorem qesc_take (l : List UInt8) (k : Nat) (hk : k < l.length) : (l.take (k + 1)).flatMap qesc = (l.take k).flatMap qesc ++ qesc l[k] := by
  rw [List.take_succ_eq_append_getElem hk, List.flatMap_append]; simp
theorem qesc_yes {c : UInt8} (h : c.toNat = 34 ∨ c.toNat = 92) : qesc c = [92] ++ [c] := by unfold qesc; rw [if_pos h]; rfl
theorem qesc_no {c : UInt8} (h : ¬ (c.toNat = 34 ∨ c.toNat = 92)) : qesc c = [c] := by unfold qesc; rw [if_neg h]
theorem quoB_bad (l : List UInt8) (h : l.all (fun b => textB b.toNat) = false) : quoB l = none := by unfold quoB; rw [if_neg (by rw [h]; simp)]
theorem quoB_ok (l : List UInt8) (h : l.all (fun b => textB b.toNat) = true) : quoB l = some (34 :: (l.flatMap qesc ++ [34])) := by unfold quoB; rw [if_pos h]

end Go.Proofs.YtgdhakkfddmkjaaDoor
namespace Go.Proofs.YtgdhakkfddmkjaaDoor
open Go.RowKit

theorem conv_piece {w : World} {b o : Nat} {x : UInt8} (c : Nat) (h : w.cell? ⟨b, o, none⟩ = some (.int .u8 (x.toNat : Int))) :
    (convert 24 9 (.slice (some ⟨b, o, none⟩) 1 c)).run Tryd.prog w = .ok (.string (ofL [x])) w :=
  run_convert_bytes_back (P := Tryd.prog) w 24 9 5 ⟨b, o, none⟩ c [x] Tryd.underlying24 Tryd.underlying5 Tryd.underlying9 (fun j hj => by
    obtain rfl : j = 0 := by simpa using hj
    rw [show (⟨b, o, none⟩ : Addr).add 0 = ⟨b, o, none⟩ from rfl, h]; rfl)

theorem grow_app (s x : ByteArray) (l m : List UInt8) (hs : s.data.toList = l) (hx : x = ofL m) : (s ++ x).data.toList = l ++ m := by
  subst hx; rw [ByteArray.data_append, Array.toList_append, hs, ofL_data]

end Go.Proofs.YtgdhakkfddmkjaaDoor
namespace Go.Proofs.YtgdhakkfddmkjaaDoor
open Go.RowKit

/-- The slice value v of n elements of 'size' cells each, nil or in a block from base on, holds the cells xs; up to its capacity it may be written. -/
def Buf (w : World) (base size : Nat) (v : Value) (n : Nat) (xs : List Value) : Prop :=
  xs.length = n * size ∧ ((v = .slice none 0 0 ∧ n = 0) ∨ ∃ g off cap, v = .slice (some ⟨g, off, none⟩) n cap ∧ base ≤ g ∧ g < w.heap.size ∧ n ≤ cap ∧
    (∀ j u, xs[j]? = some u → w.cell? ⟨g, off + j, none⟩ = some u) ∧ ∀ j, j < cap * size → (w.cell? ⟨g, off + j, none⟩).isSome = true ∧ w.frozen? ⟨g, off + j, none⟩ = false)
/-- The source of an append. -/
def Src (w : World) (size : Nat) (A : Option Addr) (m : Nat) (xs : List Value) : Prop :=
  xs.length = m * size ∧ (∀ u ∈ xs, u.oneCell' = true) ∧ (0 < m → ∃ ad, A = some ad ∧ ∀ j u, xs[j]? = some u → w.cell? (ad.add j) = some u)

section
variable {w w' : World} {base size n : Nat} {v : Value} {xs : List Value}
theorem Buf.nil (w : World) (base size : Nat) : Buf w base size (.slice none 0 0) 0 [] := ⟨by simp, .inl ⟨rfl, rfl⟩⟩
theorem Buf.kept (h : Buf w base size v n xs) (hs : w.heap.size ≤ w'.heap.size) (hk : ∀ k, k < w.heap.size → v.ownBlock = some k → w'.heap[k]? = w.heap[k]?) : Buf w' base size v n xs := by
  refine ⟨h.1, ?_⟩
  rcases h.2 with h2 | ⟨g, off, cap, rfl, hg, hlt, hnc, hc, hf⟩
  · exact .inl h2
  · have e : w'.heap[g]? = w.heap[g]? := hk g hlt rfl
    exact .inr ⟨g, off, cap, rfl, hg, Nat.lt_of_lt_of_le hlt hs, hnc, fun j u hj => (World.cell?_of_block (a := ⟨g, off + j, none⟩) e).trans (hc j u hj),
      fun j hj => by rw [World.cell?_of_block (a := ⟨g, off + j, none⟩) e, World.frozen?_of_block (a := ⟨g, off + j, none⟩) e]; exact hf j hj⟩
theorem Buf.drew (h : Buf w base size v n xs) : Buf w.drew base size v n xs := h
theorem Buf.drewN (h : Buf w base size v n xs) (k : Nat) : Buf (w.drewN k) base size v n xs := h
theorem Buf.past (h : Buf w base size v n xs) (o : Obj) : Buf (w.alloc o) base size v n xs := h.kept (by simp) fun k hk _ => Below.heap_alloc w o k hk
theorem Buf.below {B : Nat} (h : Buf w base size v n xs) (hb : Below B w w') (hB : w.heap.size ≤ B) : Buf w' base size v n xs := h.kept hb.size fun k hk _ => hb.block k (by omega)
theorem Buf.far (h : Buf w base size v n xs) {p : Addr} (hp : v.ownBlock ≠ some p.block) (u : Value) : Buf (w.setCell p u) base size v n xs :=
  h.kept (by simp [World.setCell]) fun k _ he => Below.heap_setCell w p u k (by rintro rfl; exact hp he)
theorem Buf.grown {row : Option Nat} (h : Buf w base size v n xs) (hg : w.grownBy w' row) (hr : ∀ k, v.ownBlock = some k → some k ≠ row) : Buf w' base size v n xs :=
  h.kept hg.size fun k hk he => hg.block k hk (hr k he)
theorem Buf.mono {base' : Nat} (h : Buf w base size v n xs) (hb : base' ≤ base) : Buf w base' size v n xs := by
  refine ⟨h.1, ?_⟩
  rcases h.2 with h2 | ⟨g, off, cap, hv, hg, r⟩
  · exact .inl h2
  · exact .inr ⟨g, off, cap, hv, Nat.le_trans hb hg, r⟩
theorem Buf.of_own {e : TypeId} (h : w.ownsRow base e size v n xs) : Buf w base size v n xs := by
  refine ⟨h.1, ?_⟩
  rcases h.2 with h2 | ⟨g, cap, cur, rfl, hg, hh, hnc, _, hsz, ht⟩
  · exact .inl h2
  · refine .inr ⟨g, 0, cap, rfl, hg, lt_of_block hh, hnc, fun j u hj => ?_, fun j hj => ?_⟩
    · rw [← ht] at hj
      have hj1 : j < n * size := by
        have := (List.getElem?_eq_some_iff.1 hj).1
        rw [List.length_take] at this
        omega
      rw [List.getElem?_take_of_lt hj1] at hj
      simp only [World.cell?, hh, Nat.zero_add]
      simpa using hj
    · simp only [World.cell?, World.frozen?, hh, Nat.zero_add]
      refine ⟨?_, by simp⟩
      rw [Array.getElem?_eq_getElem (by omega)]; rfl
theorem Buf.src (h : Buf w base size v n xs) (h1 : ∀ u ∈ xs, u.oneCell' = true) : ∃ A cap, v = .slice A n cap ∧ n ≤ cap ∧ Src w size A n xs := by
  rcases h.2 with ⟨rfl, rfl⟩ | ⟨g, off, cap, rfl, hg, hlt, hnc, hc, hf⟩
  · exact ⟨none, 0, rfl, Nat.le_refl _, h.1, h1, fun h => absurd h (by omega)⟩
  · exact ⟨_, cap, rfl, hnc, h.1, h1, fun _ => ⟨_, rfl, fun j u hj => by rw [Go.WideShapes.add_plain]; exact hc j u hj⟩⟩
end

theorem setCells_block (b : Nat) : ∀ (vs : List Value) (o : Nat) (w : World) (k : Nat), k ≠ b → (w.setCells b o vs).heap[k]? = w.heap[k]?
  | [], _, _, _, _ => rfl
  | v :: vs, o, w, k, hk => by
    show ((w.setCell ⟨b, o, none⟩ v).setCells b (o + 1) vs).heap[k]? = _
    rw [setCells_block b vs (o + 1) _ k hk]
    exact Below.heap_setCell w _ v k hk
theorem setCells_size (b : Nat) : ∀ (vs : List Value) (o : Nat) (w : World), (w.setCells b o vs).heap.size = w.heap.size
  | [], _, _ => rfl
  | v :: vs, o, w => by
    show ((w.setCell ⟨b, o, none⟩ v).setCells b (o + 1) vs).heap.size = _
    rw [setCells_size b vs (o + 1) _]
    simp [World.setCell]
theorem setCells_rest (b : Nat) : ∀ (vs : List Value) (o : Nat) (w : World), (w.setCells b o vs).os = w.os ∧ (w.setCells b o vs).tape = w.tape ∧ (w.setCells b o vs).output = w.output
  | [], _, _ => ⟨rfl, rfl, rfl⟩
  | v :: vs, o, w => setCells_rest b vs (o + 1) (w.setCell ⟨b, o, none⟩ v)
theorem setCells_grown (w : World) (b o : Nat) (vs : List Value) : w.grownBy (w.setCells b o vs) (some b) :=
  ⟨(setCells_rest b vs o w).1, (setCells_rest b vs o w).2.1, (setCells_rest b vs o w).2.2, by rw [setCells_size]; exact Nat.le_refl _, fun k _ hne => setCells_block b vs o w k (fun e => hne (by rw [e]))⟩
theorem setCells_some (b : Nat) : ∀ (vs : List Value) (o : Nat) (w : World) (q : Addr), (w.cell? q).isSome = true → ((w.setCells b o vs).cell? q).isSome = true
  | [], _, _, _, h => h
  | v :: vs, o, w, q, h => setCells_some b vs (o + 1) _ q (by
      by_cases e : q = ⟨b, o, none⟩
      · subst e
        obtain ⟨u, hu⟩ := Option.isSome_iff_exists.1 h
        rw [World.cell?_setCell_same _ _ _ hu]; rfl
      · rw [World.cell?_setCell_other _ _ _ _ (fun e' => e (by rw [e'])), h])

section
variable {P : Program} (w : World)
theorem run_append_buf (t ty e : TypeId) (i : TypeInfo) (z : Value) (size bytes : Nat) (ht : P.underlying t = some (.slice e)) (hi : P.info? e = some i) (hz : i.zero = some z)
    (hsize : i.size = size) (hby : i.bytes = bytes) (hzs : z.cells.size = size) (hsz : 0 < size)
    (base : Nat) (v : Value) (n : Nat) (xs : List Value) (hbuf : Buf w base size v n xs) (A : Option Addr) (m c : Nat) (news : List Value) (hs : Src w size A m news)
    (h63 : n + m ≤ maxLen) (hbytes : (n + m) * bytes ≤ 140737488355328) (hbase : base ≤ w.heap.size) :
    ∃ v' w', (Builtin.append_ #[t, t] ty #[v, .slice A m c]).run P w = .ok v' w' ∧ Buf w' base size v' (n + m) (xs ++ news) ∧ w.grownBy w' v.ownBlock ∧ (v'.ownBlock = v.ownBlock ∨ ∃ g, v'.ownBlock = some g ∧ w.heap.size ≤ g) := by
  obtain ⟨hnl, h1, hsrc⟩ := hs
  rcases hbuf.2 with ⟨rfl, rfl⟩ | ⟨g, off, cap, rfl, hg, hlt, hnc, hc, hf⟩
  · have hx : xs = [] := List.eq_nil_of_length_eq_zero (by simpa using hbuf.1)
    subst hx
    cases A with
    | none =>
      have hm : m = 0 := by
        rcases Nat.eq_zero_or_pos m with h | h
        · exact h
        · obtain ⟨_, e, _⟩ := hsrc h; cases e
      subst hm
      have hn : news = [] := List.eq_nil_of_length_eq_zero (by simpa using hnl)
      subst hn
      refine ⟨.slice none 0 0, w, ?_, by simpa using hbuf, World.grownBy.refl w _, .inl rfl⟩
      simp [Builtin.append_, run_underlying ht, sizeOf, typeInfo, hi, Builtin.lenOf, Builtin.firstCells]
    | some ad =>
      have hcells : ∀ j u, news[j]? = some u → w.cell? (ad.add j) = some u := by
        intro j u hu
        rcases Nat.eq_zero_or_pos m with h | h
        · subst h
          have hn : news = [] := List.eq_nil_of_length_eq_zero (by simpa using hnl)
          subst hn; simp at hu
        · obtain ⟨ad', e, hc'⟩ := hsrc h
          injection e with e; subst e
          exact hc' j u hu
      obtain ⟨v', w', hrun, hown, hgr, _⟩ := run_append_own (P := P) w w.heap.size t ty e i z size bytes ht hi hz hsize hby hzs hsz (.slice none 0 0) 0 [] (World.ownsRow_nil w _ e size) ad m c news hnl hcells h1 h63 hbytes (Nat.le_refl _)
      refine ⟨v', w', hrun, (Buf.of_own hown).mono hbase, hgr, ?_⟩
      rcases hown.2 with ⟨rfl, _⟩ | ⟨g, cap, cur, rfl, hg, _⟩
      · exact .inl rfl
      · exact .inr ⟨g, rfl, hg⟩
  · have hcellA : ∀ ad, A = some ad → ∀ j u, news[j]? = some u → w.cell? (ad.add j) = some u := by
      intro ad hA j u hu
      rcases Nat.eq_zero_or_pos m with h | h
      · subst h
        have hn : news = [] := List.eq_nil_of_length_eq_zero (by simpa using hnl)
        subst hn; simp at hu
      · obtain ⟨ad', e, hc'⟩ := hsrc h
        rw [hA] at e
        injection e with e; subst e
        exact hc' j u hu
    cases A with
    | none =>
      have hm : m = 0 := by
        rcases Nat.eq_zero_or_pos m with h | h
        · exact h
        · obtain ⟨_, e, _⟩ := hsrc h; cases e
      subst hm
      have hn : news = [] := List.eq_nil_of_length_eq_zero (by simpa using hnl)
      subst hn
      refine ⟨.slice (some ⟨g, off, none⟩) n cap, w, ?_, by simpa using hbuf, World.grownBy.refl w _, .inl rfl⟩
      simp [Builtin.append_, run_underlying ht, sizeOf, typeInfo, hi, Builtin.lenOf, Builtin.firstCells, hnc, storeCells]
    | some ad =>
      by_cases hr : n + m ≤ cap
      · have hle : n * size + news.length ≤ cap * size := by rw [hnl, ← Nat.add_mul]; exact Nat.mul_le_mul_right _ hr
        subst hsize
        have hrun := run_append_room_cells (P := P) w t ty e i ht hi g off n cap ad m c news hnl (hcellA ad rfl) h1 hr
          (fun j hj => by rw [Nat.add_assoc]; exact (hf _ (by omega)).1) (fun j hj => by rw [Nat.add_assoc]; exact (hf _ (by omega)).2)
        refine ⟨_, _, hrun, ⟨by rw [List.length_append, hbuf.1, hnl, Nat.add_mul], .inr ⟨g, off, cap, rfl, hg, by rw [setCells_size]; exact hlt, hr, fun j u hj => ?_, fun j hj => ⟨setCells_some _ _ _ _ _ (hf j hj).1, ?_⟩⟩⟩, setCells_grown w _ _ _, .inl rfl⟩
        · by_cases hjx : j < xs.length
          · rw [List.getElem?_append_left hjx] at hj
            rw [World.cell?_setCells_out g news _ w ⟨g, off + j, none⟩ (fun _ _ => .inl (by have := hbuf.1; show off + j < off + n * i.size; omega))]
            exact hc j u hj
          · rw [List.getElem?_append_right (by omega)] at hj
            obtain ⟨hk, hku⟩ := List.getElem?_eq_some_iff.1 hj
            have hin := World.cell?_setCells_in g news (off + n * i.size) w (fun q hq => by rw [Nat.add_assoc]; exact (hf _ (by omega)).1) (j - xs.length) hk
            rw [show off + j = off + n * i.size + (j - xs.length) by have := hbuf.1; omega, hin, hku]
        · rw [World.frozen?_setCells]; exact (hf j hj).2
      · obtain ⟨v', w', hrun, hown, hgr⟩ := run_append_arg_grows (P := P) w t ty e i z size bytes ht hi hz hsize hby hzs hsz ⟨g, off, none⟩ n cap xs hbuf.1 (fun j u hj => by rw [Go.WideShapes.add_plain]; exact hc j u hj) ad m c news hnl (hcellA ad rfl) (by omega) h63 hbytes
        refine ⟨v', w', hrun, (Buf.of_own hown).mono hbase, ⟨hgr.os, hgr.tape, hgr.output, hgr.size, fun k hk _ => hgr.block k hk (by simp)⟩, ?_⟩
        rcases hown.2 with ⟨rfl, h0⟩ | ⟨g', cap', cur, rfl, hg', _⟩
        · have : n + m = 0 := h0
          omega
        · exact .inr ⟨g', rfl, hg'⟩

theorem wpList_append_run {ops : Array Oper} {rest : List Oper} {o : Oper} {a : Act} {Q : Exit → Act → World → Prop} (hgd : o.guard = none) (d s : Operand) (dT sT : TypeId)
    (ho : o.op = .call { callee := .builtin .append, args := #[d, s], argTypes := #[dT, sT] }) (x y : Value) (hx : a.eval d = x) (hy : a.eval s = y) (v : Value) (w' : World)
    (hrun : (Builtin.append_ #[dT, sT] o.type #[x, y]).run P w = .ok v w') (h : wpList P ops Q rest (a.put o.dst v) w') : wpList P ops Q (o :: rest) a w := by
  refine wpList_plain hgd fun K hK => ?_
  unfold Oper.wp execOp
  simp only [ho, resolve, invoke, builtin, Sem.run_bind, Sem.run_pure, Result.andThen_ok, List.map_toArray, List.map_cons, List.map_nil, hx, hy, hrun]
  exact hK _ _ h
end
end Go.Proofs.YtgdhakkfddmkjaaDoor
namespace Go.Proofs.YtgdhakkfddmkjaaDoor
open Go.RowKit

theorem wpList_copy_run {P : Program} {w : World} {ops : Array Oper} {rest : List Oper} {o : Oper} {a : Act} {Q : Exit → Act → World → Prop} (hgd : o.guard = none) (d s : Operand) (dT sT : TypeId)
    (ho : o.op = .call { callee := .builtin .copy, args := #[d, s], argTypes := #[dT, sT] }) (x y : Value) (hx : a.eval d = x) (hy : a.eval s = y) (v : Value) (w' : World)
    (hrun : (Builtin.copy_ #[dT, sT] o.type #[x, y]).run P w = .ok v w') (h : wpList P ops Q rest (a.put o.dst v) w') : wpList P ops Q (o :: rest) a w := by
  refine wpList_plain hgd fun K hK => ?_
  unfold Oper.wp execOp
  simp only [ho, resolve, invoke, builtin, Sem.run_bind, Sem.run_pure, Result.andThen_ok, List.map_toArray, List.map_cons, List.map_nil, hx, hy, hrun]
  exact hK _ _ h

theorem madeCells_bytes (n : Nat) : madeCells (Value.int .u8 0).cells n = (Lib.byteCells (List.replicate n (0 : UInt8))).toArray := by
  apply Array.ext
  · simp [madeCells, Lib.byteCells]
  · intro i h1 h2
    simp [madeCells, Lib.byteCells, Value.cells, Nat.mod_one]
theorem byteCells_app (a b : List UInt8) : Lib.byteCells (a ++ b) = Lib.byteCells a ++ Lib.byteCells b := by simp [Lib.byteCells]

/-- A row of bytes, known whole. -/
def Row (w : World) (g : Nat) (l : List UInt8) : Prop := w.heap[g]? = some (.cells (Lib.byteCells l).toArray 5 (0, 0))
theorem Row.bys {w : World} {g : Nat} {l : List UInt8} (h : Row w g l) : Bys w (g + 1) (some ⟨g, 0, none⟩) l := fun _ => by
  refine ⟨g, 0, rfl, by omega, fun i hi => ?_⟩
  unfold Row at h
  simp [World.cell?, h, Lib.byteCells, hi]
theorem Row.free {w : World} {g : Nat} {l : List UInt8} (h : Row w g l) (i : Nat) : w.frozen? ⟨g, i, none⟩ = false := by
  unfold Row at h
  simp [World.frozen?, h]
theorem Row.lt {w : World} {g : Nat} {l : List UInt8} (h : Row w g l) : g < w.heap.size := lt_of_block h
theorem Row.below {w w' : World} {g B : Nat} {l : List UInt8} (h : Row w g l) (hb : Below B w w') (hg : g < B) : Row w' g l := (hb.block g hg).trans h

theorem u8size : (Tryd.prog.info? 5).map (·.size) = some 1 := by kernel_rfl
theorem make_row (n : Nat) (hn : n ≤ 4194304) (W : World) (N : Int) (hN : N = n) :
    (Instr.makeSlice 24 (.int .i64 N) (.int .i64 N)).run Tryd.prog W = .ok (.slice (some ⟨W.heap.size, 0, none⟩) n n) (W.alloc (.cells (Lib.byteCells (List.replicate n (0 : UInt8))).toArray 5)) := by
  obtain ⟨i0, hi, hz0, hz1, hz2⟩ := info_parts infoU8
  subst hN
  have h := run_make (P := Tryd.prog) (w := W) 24 5 i0 (.int .u8 0) Tryd.underlying24 hi hz0 .i64 .i64 n n (by omega) (by omega) (by rw [hz2]; omega) (by omega)
  rw [h, hz1, Nat.mul_one, Int.toNat_natCast, madeCells_bytes]
theorem row_new (W : World) (l : List UInt8) : Row (W.alloc (.cells (Lib.byteCells l).toArray 5)) W.heap.size l := heap_alloc_new W _

theorem splice_gen {α : Type} (A B D M : List α) (o k : Nat) (ha : A.length = o) (hb : B.length = k) : (A ++ B ++ D).toArray.toList.take o ++ M ++ (A ++ B ++ D).toArray.toList.drop (o + k) = A ++ M ++ D := by
  subst ha hb
  show (A ++ B ++ D).take A.length ++ M ++ (A ++ B ++ D).drop (A.length + B.length) = _
  rw [List.append_assoc A B D, List.take_left, ← List.drop_drop, List.drop_left, List.drop_left]
theorem splice_cells (a b d m : List UInt8) (o k : Nat) (ha : a.length = o) (hb : b.length = k) :
    ((Lib.byteCells (a ++ b ++ d)).toArray.toList.take o ++ Lib.byteCells m ++ (Lib.byteCells (a ++ b ++ d)).toArray.toList.drop (o + k)) = Lib.byteCells (a ++ m ++ d) := by
  have h1 : (Lib.byteCells a).length = o := by rw [Lib.byteCells_length, ha]
  have h2 : (Lib.byteCells b).length = k := by rw [Lib.byteCells_length, hb]
  rw [byteCells_app, byteCells_app, byteCells_app, byteCells_app]
  exact splice_gen _ _ _ _ o k h1 h2
set_option maxRecDepth 100000 in
theorem copy_str (W : World) (ty : TypeId) (g o n c : Nat) (s : ByteArray) (a b d : List UInt8) (hr : Row W g (a ++ b ++ d)) (ha : a.length = o) (hb : b.length = s.size) (hn : s.size ≤ n) :
    (Builtin.copy_ #[24, 9] ty #[.slice (some ⟨g, o, none⟩) n c, .string s]).run Tryd.prog W = .ok (goInt s.size) (W.setRow g (Lib.byteCells (a ++ s.data.toList ++ d)).toArray) := by
  have h := Lib.run_copy_row_string (P := Tryd.prog) W 24 9 ty 5 g o n c s _ _ Tryd.underlying24 u8size hr hn (by simp [Lib.byteCells]; omega)
  rw [splice_cells a b d _ o _ ha hb] at h
  exact h
set_option maxRecDepth 100000 in
theorem copy_bys (W : World) (ty : TypeId) (g o n c : Nat) (p : Option Addr) (B m : Nat) (l a b d : List UInt8) (hr : Row W g (a ++ b ++ d)) (ha : a.length = o) (hb : b.length = l.length) (hn : l.length ≤ n) (hl : Bys W B p l) (h0 : 0 < l.length) :
    (Builtin.copy_ #[24, 24] ty #[.slice (some ⟨g, o, none⟩) n c, .slice p l.length m]).run Tryd.prog W = .ok (goInt l.length) (W.setRow g (Lib.byteCells (a ++ l ++ d)).toArray) := by
  obtain ⟨q, off, rfl, _, hc⟩ := hl h0
  have h := run_copy_row (P := Tryd.prog) W 24 24 ty 5 g o n c ⟨q, off, none⟩ l.length m _ _ (Lib.byteCells l) Tryd.underlying24 u8size hr
    (by rw [Lib.byteCells_length]; exact (Nat.min_eq_left hn).symm) (fun j v hj => by
      have hj' : j < l.length := by have := (List.getElem?_eq_some_iff.1 hj).1; simpa [Lib.byteCells] using this
      rw [Go.WideShapes.add_plain, hc j hj']
      simpa [Lib.byteCells, hj'] using hj) (by simp [Lib.byteCells]; omega) (Lib.byteCells_one l)
  rw [Lib.byteCells_length, splice_cells a b d _ o _ ha hb] at h
  exact h
theorem row_set {W : World} {g : Nat} {l : List UInt8} (h : Row W g l) (m : List UInt8) : Row (W.setRow g (Lib.byteCells m).toArray) g m := setRow_heap W g _ _ _ _ h

/-- What a call hands back as a slice of bytes in memory of its own: nil or new, as it may be. -/
def RetB (W : World) (l : List UInt8) (e : Ending) (w' : World) : Prop :=
  ∃ v, e = .returned v ∧ Buf w' W.heap.size 1 v l.length (Lib.byteCells l) ∧ Below W.heap.size W w'

theorem retB_row {W w' : World} {g cap : Nat} {l : List UInt8} (hr : Row w' g l) (hg : W.heap.size ≤ g) (hc : cap = l.length) (hb : Below W.heap.size W w') : RetB W l (.returned (.slice (some ⟨g, 0, none⟩) l.length cap)) w' := by
  subst hc
  have hcell : ∀ j, w'.cell? ⟨g, 0 + j, none⟩ = (Lib.byteCells l)[j]? := fun j => by
    have h : w'.heap[g]? = some (.cells (Lib.byteCells l).toArray 5 (0, 0)) := hr
    simp [World.cell?, h]
  refine ⟨_, rfl, ⟨by rw [Lib.byteCells_length, Nat.mul_one], .inr ⟨g, 0, l.length, rfl, hg, hr.lt, Nat.le_refl _, fun j u hj => by rw [hcell, hj], fun j hj => ⟨?_, hr.free _⟩⟩⟩, hb⟩
  rw [hcell, List.getElem?_eq_getElem (by rw [Lib.byteCells_length]; omega)]; rfl
/-- What such a value reads as. -/
theorem Buf.bys {w : World} {base : Nat} {v : Value} {l : List UInt8} (h : Buf w base 1 v l.length (Lib.byteCells l)) : ∃ p cap, v = .slice p l.length cap ∧ l.length ≤ cap ∧ Bys w w.heap.size p l := by
  rcases h.2 with ⟨rfl, h0⟩ | ⟨g, off, cap, rfl, hg, hlt, hnc, hc, hf⟩
  · have : l = [] := List.eq_nil_of_length_eq_zero h0
    subst this
    exact ⟨none, 0, rfl, Nat.le_refl _, Bys.nil _ _ _⟩
  · exact ⟨_, cap, rfl, hnc, fun _ => ⟨g, off, rfl, hlt, fun i hi => hc i _ (by simp [Lib.byteCells, hi])⟩⟩
theorem src_bys {w : World} {B : Nat} {p : Option Addr} {l : List UInt8} (h : Bys w B p l) : Src w 1 p l.length (Lib.byteCells l) := by
  refine ⟨by rw [Lib.byteCells_length, Nat.mul_one], Lib.byteCells_one l, fun h0 => ?_⟩
  obtain ⟨b, o, rfl, _, hc⟩ := h h0
  refine ⟨_, rfl, fun j u hj => ?_⟩
  have hj' : j < l.length := by have := (List.getElem?_eq_some_iff.1 hj).1; simpa [Lib.byteCells] using this
  rw [Go.WideShapes.add_plain, hc j hj']
  simpa [Lib.byteCells, hj'] using hj

theorem byteCells_at (l : List UInt8) (j : Nat) (h : j < l.length) : (Lib.byteCells l)[j]? = some (.int .u8 (l[j].toNat : Int)) := by simp [Lib.byteCells, h]
/-- '[]byte(s)'. -/
theorem conv_new (w : World) (s : ByteArray) : ∃ v w', (convert 9 24 (.string s)).run Tryd.prog w = .ok v w' ∧ Buf w' w.heap.size 1 v s.size (Lib.byteCells s.data.toList) ∧ Below w.heap.size w w' := by
  have hrun := Lib.run_convert_string_bytes (P := Tryd.prog) w 9 24 5 s Tryd.underlying9 Tryd.underlying24 Tryd.underlying5
  refine ⟨_, _, hrun, ⟨by rw [Lib.byteCells_length, Array.length_toList, Nat.mul_one]; rfl, .inr ⟨_, 0, _, rfl, Nat.le_refl _, by rw [Lib.bytesWorld_size]; omega, ?_, fun j u hj => ?_, fun j hj => ?_⟩⟩, Lib.bytesWorld_below w 5 s⟩
  · exact grownCap_ge w s.size 0 5
  · have hj' : j < s.data.toList.length := by have := (List.getElem?_eq_some_iff.1 hj).1; simpa [Lib.byteCells] using this
    rw [Nat.zero_add, (bytesAt_conv w 5 s j hj').1, ← byteCells_at _ j hj']
    exact hj
  · have hat := Lib.bytesWorld_at_new w 5 s
    have hge := grownCap_ge w s.size 0 5
    have hsz : (Lib.bytesCells w 5 s).size = grownCap w s.size 0 5 := by simp [Lib.bytesCells]; omega
    rw [Nat.mul_one] at hj
    rw [Nat.zero_add]
    refine ⟨?_, ?_⟩
    · simp only [World.cell?, hat]
      rw [Array.getElem?_eq_getElem (by rw [hsz]; exact hj)]; rfl
    · simp only [World.frozen?, hat, hsz]
      simp
      omega

set_option maxRecDepth 100000 in
set_option maxHeartbeats 800000 in
theorem literal_any (p : Option Addr) (cap : Nat) (l : List UInt8) (w : World) (h : Bys w w.heap.size p l) (hl : l.length ≤ 1048576) (hcap : l.length ≤ cap) (hS : Std w) :
    Calls Tryd.prog 56 #[.slice p l.length cap] w (RetB w (litB l)) := by
  have H := Lib.hid (decimal_any l.length w (by omega) hS)
  have hD : (ofL (Lib.decDigits l.length)).size ≤ 10 := decDigits_len l.length (by omega)
  generalize hDD : ofL (Lib.decDigits l.length) = D at H hD
  have HD := Lib.hid hDD
  clear hDD hS
  go_enter Tryd.func56, Tryd.ntmps56
  go_wp2_with fail
  refine H.out.mono ?_
  rintro e w1 ⟨rfl, hb1⟩
  go_wp2_with fail
  obtain ⟨n, hn⟩ : ∃ n, D.size + 4 + l.length = n := ⟨_, rfl⟩
  rw [make_row n (by omega) w1 _ (by omega)]
  simp only [Result.andThen]
  rw [Oper.upon_value]
  generalize hh : (({ data := #[123] } : ByteArray) ++ D ++ { data := #[125] } ++ { data := #[13, 10] }) = s
  have hsd : s.data.toList = litH l.length := by
    rw [← hh, ← HD.out]
    simp only [ByteArray.data_append, Array.toList_append, ofL_data]
    simp [litH]
  have hss : s.size = D.size + 4 := by rw [← hh]; simp only [ByteArray.size_append]; show 1 + D.size + 1 + 2 = _; omega
  clear hh
  have hr0 := row_new w1 (List.replicate n (0 : UInt8))
  have hB0 : Below w.heap.size w (w1.alloc (.cells (Lib.byteCells (List.replicate n (0 : UInt8))).toArray 5)) := hb1.alloc hb1.size _
  generalize hW : w1.alloc (.cells (Lib.byteCells (List.replicate n (0 : UInt8))).toArray 5) = W at hr0 hB0
  clear hW
  generalize hg : w1.heap.size = g at hr0
  have hgw : w.heap.size ≤ g := by rw [← hg]; exact hb1.size
  clear hg
  have e0 : List.replicate n (0 : UInt8) = [] ++ List.replicate s.size 0 ++ List.replicate l.length 0 := by
    rw [List.nil_append, ← hn, ← hss, List.replicate_append_replicate]
  rw [e0] at hr0
  have hc1 := fun ty => copy_str W ty g 0 n n s [] (List.replicate s.size 0) (List.replicate l.length 0) hr0 rfl (by simp) (by omega)
  have hr1 := row_set hr0 ([] ++ s.data.toList ++ List.replicate l.length 0)
  have hB1 := below_setRow hB0 hgw (Lib.byteCells ([] ++ s.data.toList ++ List.replicate l.length 0)).toArray
  generalize W.setRow g (Lib.byteCells ([] ++ s.data.toList ++ List.replicate l.length 0)).toArray = W1 at hc1 hr1 hB1
  have h1 := h.below hB1
  by_cases h0 : 0 < l.length
  · have hc2 := fun ty => copy_bys W1 ty g s.size l.length l.length p w.heap.size cap l s.data.toList (List.replicate l.length 0) [] (by simpa using hr1) (by simp) (by simp) (Nat.le_refl _) h1 h0
    have hr2 := row_set hr1 (s.data.toList ++ l ++ [])
    have hB2 := below_setRow hB1 hgw (Lib.byteCells (s.data.toList ++ l ++ [])).toArray
    generalize W1.setRow g (Lib.byteCells (s.data.toList ++ l ++ [])).toArray = W2 at hc2 hr2 hB2
    clear hr1 hB1 hr0 hB0 h h1 e0 hb1
    rw [List.append_nil, hsd] at hr2
    have HR2 : Hid (Row W2 g (litB l)) := Lib.hid hr2
    have hlen : (litB l).length = n := by
      have : (litH l.length).length = s.size := by rw [← hsd]; simp
      show (litH l.length ++ l).length = n
      rw [List.length_append, this]; omega
    have HLEN := Lib.hid hlen
    have HSS := Lib.hid hss
    have hns : n - s.size = l.length := by omega
    have HN := Lib.hid hn
    clear hr2 hlen hsd hss hn
    have hsn : s.size < n := by omega
    have hne : ¬ n = s.size := by omega
    go_wp2_with (first
      | (with_reducible refine wpList_copy_run rfl (.tmp 19) (.tmp 20) _ _ rfl _ _ rfl rfl _ _ (hc1 _) ?_)
      | (with_reducible refine wpList_copy_run rfl (.tmp 22) (.tmp 23) _ _ rfl _ _ rfl rfl _ _ (hc2 _) ?_))
    go_ret
    have hfin := retB_row (W := w) HR2.out hgw rfl hB2
    rw [HLEN.out] at hfin
    exact hfin
  · have hl0 : l = [] := List.eq_nil_of_length_eq_zero (by omega)
    subst hl0
    have hns : n = s.size := by rw [hss, ← hn]; rfl
    subst hns
    have hc2 := fun ty a c => run_copy_none (P := Tryd.prog) W1 24 24 ty 5 a p 0 c 0 cap Tryd.underlying24 u8size rfl
    have HR1 : Hid (Row W1 g (litB [])) := Lib.hid (by
      have := hr1
      rw [hsd] at this
      simpa [litB] using this)
    have hlen : (litB []).length = s.size := by
      have : (litH 0).length = s.size := by rw [← show s.data.toList.length = s.size by simp, hsd]; rfl
      simpa [litB] using this
    have HLEN := Lib.hid hlen
    clear hr1 hr0 hB0 h h1 e0 hb1 hlen hsd hss hn h0 hcap hl
    go_wp2_with (first
      | (with_reducible refine wpList_copy_run rfl (.tmp 19) (.tmp 20) _ _ rfl _ _ rfl rfl _ _ (hc1 _) ?_)
      | (with_reducible refine wpList_copy_run rfl (.tmp 22) (.tmp 23) _ _ rfl _ _ rfl rfl _ _ (hc2 _ _ _) ?_))
    go_ret
    have hfin := retB_row (W := w) HR1.out hgw rfl hB1
    rw [HLEN.out] at hfin
    exact hfin

theorem lit_str (D : ByteArray) (n : Nat) (h : D = ofL (Lib.decDigits n)) : (({ data := #[123] } : ByteArray) ++ D ++ { data := #[125, 13, 10] }).data.toList = litH n := by
  subst h
  simp only [ByteArray.data_append, Array.toList_append, ofL_data]
  simp [litH]

set_option maxRecDepth 100000 in
set_option maxHeartbeats 800000 in
theorem rLiteral_any (p : Option Addr) (cap : Nat) (l : List UInt8) (w : World) (h : Bys w w.heap.size p l) (hl : l.length ≤ 1048576) :
    Calls Tryd.prog 46 #[.slice p l.length cap] w (RetB w (litB l)) := by
  have H := Lib.hid (rDecimal_any l.length w (by omega))
  have hD : (ofL (Lib.decDigits l.length)).size ≤ 10 := decDigits_len l.length (by omega)
  have hls := lit_str (ofL (Lib.decDigits l.length)) l.length rfl
  generalize ofL (Lib.decDigits l.length) = D at H hD hls
  generalize hs : (({ data := #[123] } : ByteArray) ++ D ++ { data := #[125, 13, 10] }) = s at hls
  have hsz : s.size ≤ 14 := by rw [← hs]; simp only [ByteArray.size_append]; show 1 + D.size + 3 ≤ 14; omega
  obtain ⟨v, w1, hrun, hbuf, hbw⟩ := conv_new w s
  obtain ⟨i0, hi, hz0, hz1, hz2⟩ := info_parts infoU8
  have hsl : s.size = s.data.toList.length := by simp
  have hmx : s.size + l.length ≤ maxLen := by unfold maxLen; omega
  obtain ⟨v2, w2, hrun2, hbuf2, hgr, _⟩ := run_append_buf (P := Tryd.prog) w1 24 24 5 i0 (.int .u8 0) 1 1 Tryd.underlying24 hi hz0 hz1 hz2 rfl (by decide) w.heap.size v s.size _ hbuf p l.length cap _ (src_bys (h.below hbw)) hmx (by omega) hbw.size
  rw [← byteCells_app, hls] at hbuf2
  have hlen : (litB l).length = s.size + l.length := by rw [hsl, hls]; simp [litB]
  have hfin : RetB w (litB l) (.returned v2) w2 := ⟨v2, rfl, by rw [hlen]; exact hbuf2, hbw.grown hgr hbw.size (fun k hk => by
    rcases hbuf.2 with ⟨rfl, _⟩ | ⟨g, off, c, rfl, hg, _⟩
    · simp [Value.ownBlock] at hk
    · simp only [Value.ownBlock, Option.some.injEq] at hk; omega)⟩
  have HF := Lib.hid hfin
  clear hbuf hbuf2 hbw hfin hgr hlen hls hsl hmx h
  have HR := Lib.hid hrun
  have HR2 := Lib.hid hrun2
  clear hrun hrun2
  go_enter Tryd.func46, Tryd.ntmps46
  go_wp2_with fail
  refine H.out.mono ?_
  rintro e w3 ⟨rfl, rfl⟩
  go_wp2_with fail
  rw [HR.out]
  simp only [Result.andThen]
  rw [Oper.upon_value]
  go_wp2_with (at_builtin; refine wpList_append_run _ rfl (.tmp 9) (.tmp 10) _ _ rfl _ _ rfl rfl _ _ HR2.out ?_)
  go_ret
  exact HF.out

theorem best_spec {l : List UInt8} {x : List UInt8} (h : quoB l = some x) : bestB l = x := by unfold bestB; rw [h]; rfl
theorem best_spec' {l : List UInt8} (h : quoB l = none) : bestB l = litB l := by unfold bestB; rw [h]; rfl
theorem quoV_none : quoV none = .tuple #[.string ⟨#[]⟩, .bool false] := rfl
theorem quoV_some (x : List UInt8) : quoV (some x) = .tuple #[.string (ofL x), .bool true] := rfl

end Go.Proofs.YtgdhakkfddmkjaaDoor
namespace Go.Proofs.YtgdhakkfddmkjaaDoor
open Go.RowKit

def annV (o : Option Nat) : Value := .tuple #[.int .i64 ((o.getD 0 : Nat) : Int), .bool o.isSome]
theorem annV_none : annV none = .tuple #[.int .i64 0, .bool false] := rfl
theorem annV_some (u : Nat) : annV (some u) = .tuple #[.int .i64 (u : Int), .bool true] := rfl

theorem lastIx_take {c : UInt8} {l : List UInt8} {i : Nat} (h : lastIx c l = some i) : ∃ (hi : i < l.length), l[i] = c ∧ ∀ j (hj : j < l.length), i < j → l[j] ≠ c := by
  obtain ⟨a, b, rfl, rfl, hb⟩ := lastIx_split h
  refine ⟨by simp, by simp, fun j hj hij e => hb ?_⟩
  obtain ⟨m, rfl⟩ : ∃ m, j = a.length + (m + 1) := ⟨j - a.length - 1, by omega⟩
  have h1 : (a ++ c :: b)[a.length + (m + 1)]? = b[m]? := by
    rw [List.getElem?_append_right (Nat.le_add_right _ _), Nat.add_sub_cancel_left]; rfl
  rw [List.getElem?_eq_getElem hj, e] at h1
  exact List.mem_of_getElem? h1.symm
def ixV (o : Option Nat) : Int := match o with
  | none => -1
  | some i => (i : Int)

theorem bytesOf_ints (l : List UInt8) : Lib.bytesOf (ints l) = l := by
  simp only [Lib.bytesOf, ints, List.map_map]
  conv => rhs; rw [← List.map_id l]
  exact List.map_congr_left fun b _ => by simp
theorem suffix_one (l : List UInt8) (c : UInt8) : Lib.hasSuffix l [c] = decide (l.getLast? = some c) := by
  unfold Lib.hasSuffix
  rw [Bool.eq_iff_iff, List.isSuffixOf_iff_suffix, decide_eq_true_eq]
  constructor
  · rintro ⟨t, rfl⟩; simp
  · intro h
    cases hl : l.reverse with
    | nil => rw [List.reverse_eq_nil_iff] at hl; subst hl; cases h
    | cons x r =>
      have e : l = r.reverse ++ [x] := by rw [← List.reverse_reverse l, hl, List.reverse_cons]
      subst e
      simp at h
      subst h
      exact ⟨_, rfl⟩

theorem annP_not (l : List UInt8) (h : ¬ l.getLast? = some 125) : annP l = none := by unfold annP; rw [if_neg h]
theorem annP_no (l : List UInt8) (h : l.getLast? = some 125) (hi : lastIx 123 l.dropLast = none) : annP l = none := by unfold annP; rw [if_pos h, hi]
theorem annP_at (l : List UInt8) (h : l.getLast? = some 125) (i : Nat) (hi : lastIx 123 l.dropLast = some i) : annP l = numB (l.dropLast.drop (i + 1)) := by unfold annP; rw [if_pos h, hi]
theorem last_pos {l : List UInt8} {c : UInt8} (h : l.getLast? = some c) : 0 < l.length := by cases l with | nil => cases h | cons a l => simp
theorem dropLast_bys {w : World} {B : Nat} {p : Option Addr} {l : List UInt8} (h : Bys w B p l) : Bys w B p l.dropLast := by
  rw [List.dropLast_eq_take]; exact h.upto _

end Go.Proofs.YtgdhakkfddmkjaaDoor
namespace Go.Proofs.YtgdhakkfddmkjaaDoor
open Go.RowKit

theorem digStart_zero {m : List UInt8} (h : m.all digitB = true) : digStart m = 0 := by
  cases m with
  | nil => rfl
  | cons x m => unfold digStart; rw [if_pos h]
theorem digStart_at {m : List UInt8} {j : Nat} (hj : j < m.length) (h : (m.drop (j + 1)).all digitB = true) (hn : digitB m[j] = false) : digStart m = j + 1 := by
  have e : m = m.take j ++ m[j] :: m.drop (j + 1) := by
    rw [← List.drop_eq_getElem_cons hj, List.take_append_drop]
  have := digStart_mk h (m.take j) m[j] hn
  rw [← e, List.length_take, Nat.min_eq_left (by omega)] at this
  exact this
theorem annR_not (l : List UInt8) (h : ¬ l.getLast? = some 125) : annR l = none := by unfold annR; rw [if_neg h]
theorem annR_none (l : List UInt8) (h : l.getLast? = some 125) (k : Nat) (hk : digStart l.dropLast = k) (hn : numB (l.dropLast.drop k) = none) : annR l = none := by
  unfold annR; rw [if_pos h, hk, hn]
theorem annR_some (l : List UInt8) (h : l.getLast? = some 125) (k : Nat) (hk : digStart l.dropLast = k) (x : Nat) (hn : numB (l.dropLast.drop k) = some x) : annR l = if 0 < k ∧ l.dropLast[k - 1]? = some 123 then some x else none := by
  unfold annR; rw [if_pos h, hk, hn]
theorem last_get {l : List UInt8} (h : 0 < l.length) : l.getLast? = some (l[l.length - 1]'(by omega)) := by
  rw [List.getLast?_eq_getElem?, List.getElem?_eq_getElem]

end Go.Proofs.YtgdhakkfddmkjaaDoor
namespace Go.Proofs.YtgdhakkfddmkjaaDoor
open Go.RowKit

theorem const_bys (w : World) (l : List UInt8) (m : Nat × Nat) : Bys (w.alloc (.cells (Lib.byteCells l).toArray 5 m)) (w.alloc (.cells (Lib.byteCells l).toArray 5 m)).heap.size (some ⟨w.heap.size, 0, none⟩) l := fun h0 => by
  refine ⟨w.heap.size, 0, rfl, by rw [World.size_alloc]; omega, fun i hi => ?_⟩
  have hh := heap_alloc_new w (.cells (Lib.byteCells l).toArray 5 m)
  simp only [World.cell?, hh]
  simp [Lib.byteCells, hi]
theorem ann_ex : annP [97, 32, 83, 69, 76, 69, 67, 84, 32, 123, 53, 125] = some 5 := by decide +kernel
theorem quo_ex : quoB [97, 34, 98] = some [34, 97, 92, 34, 98, 34] := by decide +kernel
theorem lit_ex : litB [97, 98] = [123, 50, 125, 13, 10, 97, 98] := by decide +kernel

end Go.Proofs.YtgdhakkfddmkjaaDoor
namespace Go.Proofs.YtgdhakkfddmkjaaDoor
open Go.RowKit

theorem take_ne {l m : List UInt8} {k : Nat} (h1 : k < l.length) (h2 : k < m.length) (h : l[k] ≠ m[k]) : l ≠ m := by
  rintro rfl; exact h rfl
theorem take_all {l m : List UInt8} (hlm : l.length = m.length) {k : Nat} (hk : l.length ≤ k) (h : l.take k = m.take k) : l = m := by
  rwa [List.take_of_length_le hk, List.take_of_length_le (by omega)] at h
theorem take_next {l m : List UInt8} {k : Nat} (h1 : k < l.length) (h2 : k < m.length) (h : l.take k = m.take k) (e : l[k] = m[k]) : l.take (k + 1) = m.take (k + 1) := by
  rw [List.take_succ_eq_append_getElem h1, List.take_succ_eq_append_getElem h2, h, e]

set_option maxRecDepth 100000 in
set_option maxHeartbeats 800000 in
theorem equal_quiet (p q : Option Addr) (cap cap' : Nat) (l m : List UInt8) (w : World) (B B' : Nat) (h : Bys w B p l) (h' : Bys w B' q m) (hl : l.length ≤ 1048576) (hm : m.length ≤ 1048576) :
    Calls Tryd.prog 17 #[.slice p l.length cap, .slice q m.length cap'] w fun e w' => e = .returned (.bool (decide (l = m))) ∧ ∃ j, w' = w.drewN j := by
  by_cases hlm : l.length = m.length
  · have HC := Lib.hid (fun k (hk : k < l.length) => And.intro (h.at (by omega)) (h'.at (by omega)))
    obtain ⟨n, hn⟩ : ∃ n, n = l.length := ⟨_, rfl⟩
    have hn' : n = m.length := by omega
    rw [← hn, ← hn']
    have HN := Lib.hid hn
    have HM := Lib.hid hn'
    have hnb : n ≤ 1048576 := by omega
    clear h h' hl hm hlm hn hn'
    go_enter Tryd.func17, Tryd.ntmps17
    go_wp2_with fail
    go_loopw [13] (fun i wr => ∃ k : Nat, k ≤ n ∧ i = .int .i64 (k : Int) ∧ (∃ j, wr = w.drewN j) ∧ l.take k = m.take k) (fun i _ => n - (intOf i).toNat)
    case atStart => exact ⟨0, Nat.zero_le _, rfl, ⟨0, rfl⟩, rfl⟩
    case round =>
      obtain ⟨k, hk, rfl, ⟨j, rfl⟩, ha⟩ := hrel
      have A := Lib.hid ha
      clear ha
      by_cases hlt : k < n
      · have hk1 : k < l.length := by have := HN.out; omega
        have hk2 : k < m.length := by have := HM.out; omega
        obtain ⟨⟨b, o, rfl, _, c1⟩, ⟨b', o', rfl, _, c2⟩⟩ := HC.out k hk1
        have d1 : w.cell? ⟨b, o + k, none⟩ = some (.int .u8 (l[k].toNat : Int)) := c1 k hk1
        have d2 : w.cell? ⟨b', o' + k, none⟩ = some (.int .u8 (m[k].toNat : Int)) := c2 k hk2
        have hi0 : (0 : Int) ≤ k := by omega
        have hi1 : (k : Int) < n := by omega
        clear c1 c2
        by_cases he : l[k] = m[k]
        · have R := Lib.hid (take_next hk1 hk2 A.out he)
          have e1 : ((l[k].toNat : Int) != (m[k].toNat : Int)) = false := by rw [he, bne_self_eq_false]
          generalize (l[k].toNat : Int) = x at d1 e1
          generalize (m[k].toNat : Int) = y at d2 e1
          clear he hk1 hk2
          go_wp2_with fail
          go_quiet (fail)
          go_wp2_with fail
          go_roundw
          case rel => exact ⟨k + 1, by omega, by go_num, ⟨j + nq, rfl⟩, R.out⟩
          case measure => simp [intOf]; omega
        · have R := Lib.hid (decide_eq_false (take_ne hk1 hk2 he))
          have e1 : ((l[k].toNat : Int) != (m[k].toNat : Int)) = true := by
            rw [bne_iff_ne]; intro e; exact he (UInt8.toNat_inj.1 (by omega))
          generalize (l[k].toNat : Int) = x at d1 e1
          generalize (m[k].toNat : Int) = y at d2 e1
          clear he hk1 hk2
          go_wp2_with fail
          go_quiet (fail)
          go_wp2_with fail
          go_ret
          exact ⟨by rw [R.out]; rfl, ⟨j + nq, World.drewN_drewN _ _ _⟩⟩
      · have R := Lib.hid (decide_eq_true (take_all (by rw [← HN.out, ← HM.out]) (by rw [← HN.out]; omega) A.out))
        go_wp2_with fail
        go_ret
        exact ⟨by rw [R.out]; rfl, ⟨j, rfl⟩⟩
  · have e1 : ((l.length : Int) != (m.length : Int)) = true := by rw [bne_iff_ne]; omega
    have e2 : decide (l = m) = false := decide_eq_false (fun e => hlm (by rw [e]))
    rw [e2]
    generalize l.length = n at *
    generalize m.length = n' at *
    clear h h' e2 hlm
    go_enter Tryd.func17, Tryd.ntmps17
    go_wp2_with fail
    go_ret
    exact ⟨rfl, ⟨0, rfl⟩⟩
end Go.Proofs.YtgdhakkfddmkjaaDoor
namespace Go.Proofs.YtgdhakkfddmkjaaDoor
open Go.RowKit

theorem equal_any (p q : Option Addr) (cap cap' : Nat) (l m : List UInt8) (w : World) (B B' : Nat) (h : Bys w B p l) (h' : Bys w B' q m) (hl : l.length ≤ 1048576) (hm : m.length ≤ 1048576) :
    Calls Tryd.prog 17 #[.slice p l.length cap, .slice q m.length cap'] w fun e w' => e = .returned (.bool (decide (l = m))) ∧ Below w.heap.size w w' := by
  refine (equal_quiet p q cap cap' l m w B B' h h' hl hm).mono ?_
  rintro e w' ⟨rfl, j, rfl⟩
  exact ⟨rfl, YtgdhakkfddmkjaaDoor.Below.many (Below.refl _ _) j⟩
end Go.Proofs.YtgdhakkfddmkjaaDoor
