/- The walks of package char: the class of atom bytes. The walks of package char and of its reference: classes of bytes, strings in a class. The walks of package char: Upper and Same, with their references. The walks of the reference of package char: classes, strings in a class. The walks of the reference of package char: Upper, Decimal, Number. The walks of the reference of package char: Number. -/
import Derived.Test.YtpcffnhbodjpbaaGreatDoorProg
import Derived.Test.YtpcffnhbodjpbaaGreatDoorBase
import Derived.StillTailTactics
import Derived.Deep.RegionWith
import Derived.Deep.RegionHeld3
import Derived.Lib.ConvBytes
import Derived.Lib.AtoiErrMem
import Derived.Lib.Itoa
import Derived.Lib.ItoaNum
set_option linter.unusedVariables false
set_option linter.unusedSimpArgs false
namespace Go.Proofs.YtpcffnhbodjpbaaGreatDoor
open Go.RowKit

def word (k : Nat) : List Int :=
  match k with
  | 0 => [0, 0, 0, 0]
  | 1 => [1099511627776, 0, 0, 0]
  | 2 => [3298534883328, 0, 0, 0]
  | 3 => [3298534883328, 576460752303423488, 0, 0]
  | 4 => [3435973836800, 576460752303423488, 0, 0]
  | 5 => [7834020347904, 576460752303423488, 0, 0]
  | 6 => [7851200217088, 576460752303423488, 0, 0]
  | 7 => [7851200217088, 576460752571858944, 0, 0]
  | _ => [7851200217088, 576460753108729856, 0, 0]
def cells64 (l : List Int) : Array Value := (l.map (Value.int .u64)).toArray

def sp : ByteArray := ⟨#[40, 41, 123, 37, 42, 34, 92, 93]⟩
theorem sp_step (k : Nat) (hk : k < 8) : word (k + 1) = (word k).set ((sp.data.getD k 0).toNat / 64) (bits .or .u64 ((word k).getD ((sp.data.getD k 0).toNat / 64) 0) (IntKind.u64.wrap (2 ^ ((sp.data.getD k 0).toNat % 64)))) := by
  have h : ∀ k : Fin 8, word (k.val + 1) = (word k.val).set ((sp.data.getD k.val 0).toNat / 64) (bits .or .u64 ((word k.val).getD ((sp.data.getD k.val 0).toNat / 64) 0) (IntKind.u64.wrap (2 ^ ((sp.data.getD k.val 0).toNat % 64)))) := by decide +kernel
  exact h ⟨k, hk⟩

def inSet (c : Int) : Bool := bits BinOp.and IntKind.u64 ((word 8).getD (c / 64).toNat 0 / 2 ^ (c % 64).toNat) 1 == 1

def atomB (c : Int) : Bool := decide (32 < c) && decide (c ≤ 126) && !inSet c

theorem word_len (k : Nat) : (word k).length = 4 := by unfold word; split <;> rfl
theorem sp_lt (k : Nat) (hk : k < 8) : (sp.data.getD k 0).toNat / 64 < 4 := by
  have := (sp.data.getD k 0).toNat_lt; omega
theorem cells64_at (l : List Int) (j : Nat) (hj : j < l.length) : (cells64 l)[j]? = some (.int .u64 (l.getD j 0)) := by
  simp [cells64, hj]
theorem cells64_set (l : List Int) (j : Nat) (v : Int) : (cells64 l).setIfInBounds j (.int .u64 v) = cells64 (l.set j v) := by
  simp [cells64, List.map_set]


theorem sp_get (k : Nat) (hk : k < 8) : (({ data := #[40, 41, 123, 37, 42, 34, 92, 93] } : ByteArray)[k]'hk).toNat = (sp.data.getD k 0).toNat := by
  rw [Array.getD_eq_getD_getElem?, Array.getElem?_eq_getElem (show k < sp.data.size from hk)]; rfl
theorem atomB_in (c : Int) (h1 : 32 < c) (h2 : c ≤ 126) (b : Bool) (h : inSet c = b) : atomB c = !b := by
  simp [atomB, h1, h2, h]
theorem atomB_hi (c : Int) (h2 : ¬ c ≤ 126) : atomB c = false := by simp [atomB, h2]
theorem atomB_lo (c : Int) (h2 : ¬ 32 < c) : atomB c = false := by simp [atomB, h2]

def tagB (c : Int) : Bool := (c == 93) || (!(c == 43) && atomB c)
end Go.Proofs.YtpcffnhbodjpbaaGreatDoor

namespace Go.Proofs.YtpcffnhbodjpbaaGreatDoor
open Go.RowKit

def textB (c : Int) : Bool := c != 0 && (decide (c < 128) && (c != 13 && c != 10))

theorem andNot32 (c : Int) (hc : 97 ≤ c) (hc2 : c ≤ 122) : bits BinOp.andNot IntKind.u8 c 32 = c - 32 := by
  have h : ∀ k : Fin 26, bits BinOp.andNot IntKind.u8 ((k.val : Int) + 97) 32 = (k.val : Int) + 97 - 32 := by decide +kernel
  have := h ⟨(c - 97).toNat, by omega⟩
  rwa [show (((⟨(c - 97).toNat, by omega⟩ : Fin 26).val : Int) + 97) = c from by simp; omega] at this
theorem take_all_no {α : Type} {q : α → Bool} {l : List α} {k : Nat} (hk : k < l.length) (h : q l[k] = false) : l.all q = false := by
  rw [List.all_eq_false]; exact ⟨_, List.getElem_mem hk, by simp [h]⟩
theorem take_all_yes {α : Type} {q : α → Bool} {l : List α} {k : Nat} (hk : k < l.length) (ht : (l.take k).all q = true) (h : q l[k] = true) : (l.take (k + 1)).all q = true := by
  rw [List.take_succ_eq_append_getElem hk, List.all_append, ht]; simp [h]
theorem byte_at (s : ByteArray) (k : Nat) (h : k < s.size) : s.data.toList[k]'(by simpa using h) = s[k] := rfl

theorem str_cases (s : ByteArray) : s = ⟨#[]⟩ ∨ (¬ s.toList = [] ∧ s.toList.isEmpty = false ∧ s.data.toList.isEmpty = false) := by
  rcases s with ⟨⟨l⟩⟩
  cases l with
  | nil => exact .inl rfl
  | cons a l => right; rw [ByteArray.toList_eq]; simp

def allS (p : Int → Bool) (s : ByteArray) : Bool := !s.data.toList.isEmpty && s.data.toList.all fun b => p b.toNat

end Go.Proofs.YtpcffnhbodjpbaaGreatDoor

namespace Go.Proofs.YtpcffnhbodjpbaaGreatDoor
open Go.RowKit

/-- From cell 0 on, block B holds the bytes l, and they may be written. -/
def BytesAt (w : World) (B : Nat) (l : List UInt8) : Prop :=
  ∀ j (h : j < l.length), w.cell? ⟨B, j, none⟩ = some (.int .u8 (l[j].toNat : Int)) ∧ w.frozen? ⟨B, j, none⟩ = false
section
variable {w w' : World} {B : Nat} {l : List UInt8}
theorem BytesAt.drew (h : BytesAt w B l) : BytesAt w.drew B l := h
theorem BytesAt.past (h : BytesAt w B l) (hB : B < w.heap.size) (o : Obj) : BytesAt (w.alloc o) B l := fun j hj => by
  have hb := (Below.refl w.heap.size w).alloc (Nat.le_refl _) o
  exact ⟨(hb.cell (p := ⟨B, j, none⟩) hB).trans (h j hj).1, (hb.frozen (p := ⟨B, j, none⟩) hB).trans (h j hj).2⟩
theorem BytesAt.below {C : Nat} (h : BytesAt w B l) (hb : Below C w w') (hB : B < C) : BytesAt w' B l := fun j hj =>
  ⟨(hb.cell (p := ⟨B, j, none⟩) hB).trans (h j hj).1, (hb.frozen (p := ⟨B, j, none⟩) hB).trans (h j hj).2⟩
theorem BytesAt.put (h : BytesAt w B l) (k : Nat) (hk : k < l.length) (u : UInt8) : BytesAt (w.setCell ⟨B, k, none⟩ (.int .u8 (u.toNat : Int))) B (l.set k u) := fun j hj => by
  have hj' : j < l.length := by simpa using hj
  refine ⟨?_, ?_⟩
  · by_cases e : k = j
    · subst e
      rw [World.cell?_setCell_same _ _ _ (h k hk).1]; simp
    · rw [World.cell?_setCell_other _ _ _ _ (by simp [e]), (h j hj').1]
      simp [List.getElem_set, e]
  · rw [World.frozen?_setCell]; exact (h j hj').2
end

def upB (b : UInt8) : UInt8 := if 97 ≤ b.toNat ∧ b.toNat ≤ 122 then b - 32 else b

theorem up_step (l : List UInt8) (k : Nat) (hk : k < l.length) : ((l.take k).map upB ++ l.drop k).set k (upB l[k]) = (l.take (k + 1)).map upB ++ l.drop (k + 1) := by
  rw [List.set_append_right _ _ (by simp; omega)]
  have e : k - ((l.take k).map upB).length = 0 := by simp; omega
  rw [e, List.drop_eq_getElem_cons hk, List.set_cons_zero, List.take_succ_eq_append_getElem hk, List.map_append]
  simp only [List.map_cons, List.map_nil, List.append_assoc, List.cons_append, List.nil_append]

theorem bytesAt_conv (w : World) (e : TypeId) (s : ByteArray) : BytesAt (Lib.bytesWorld w e s) w.heap.size s.data.toList := fun j hj => by
  have hj' : j < s.size := by simpa using hj
  refine ⟨?_, ?_⟩
  · rw [Lib.bytesWorld_cell w e s j hj', List.getD_eq_getElem?_getD, List.getElem?_eq_getElem hj]; rfl
  · have := Lib.bytesWorld_at_new w e s
    simp [World.frozen?, this, Lib.bytesCells]
    omega

def upS (s : ByteArray) : ByteArray := ⟨(s.data.toList.map upB).toArray⟩
theorem upS_size (s : ByteArray) : (upS s).size = s.size := by
  show (s.data.toList.map upB).toArray.size = _
  rw [List.size_toArray, List.length_map, Array.length_toList]; rfl
/-- Go's == on strings, as the walk spells it. -/
def eqS (x y : ByteArray) : Bool := x.toList == y.toList
theorem eqS_iff (x y : ByteArray) : eqS x y = true ↔ x = y := by
  unfold eqS
  rw [beq_iff_eq, ByteArray.toList_eq, ByteArray.toList_eq]
  exact ⟨fun h => by cases x; cases y; congr; exact Array.toList_inj.1 h, fun h => by rw [h]⟩

end Go.Proofs.YtpcffnhbodjpbaaGreatDoor

namespace Go.Proofs.YtpcffnhbodjpbaaGreatDoor
open Go.RowKit

theorem atomB_tab : ∀ c : Fin 256, atomB c.val = (!(([40, 41, 123, 37, 42, 34, 92, 93] : List Int).contains c.val) && (decide (32 < (c.val : Int)) && decide ((c.val : Int) < 127))) := by decide +kernel
theorem atomB_ref (c : Int) (hc : 0 ≤ c) (hc2 : c < 256) : atomB c = (!(([40, 41, 123, 37, 42, 34, 92, 93] : List Int).contains c) && (decide (32 < c) && decide (c < 127))) := by
  have := atomB_tab ⟨c.toNat, by omega⟩
  simp only [Int.toNat_of_nonneg hc] at this
  exact this

end Go.Proofs.YtpcffnhbodjpbaaGreatDoor

namespace Go.Proofs.YtpcffnhbodjpbaaGreatDoor
open Go.RowKit

/-- The bytes of a string that is given by a list. -/
def ofL (l : List UInt8) : ByteArray := ⟨l.toArray⟩


theorem conv_one (W : World) (v : Int) (u : UInt8) (h : v = (u.toNat : Int)) :
    (convert 72 9 (.slice (some ⟨W.heap.size, 0, none⟩) 1 1)).run Tryz.prog (W.alloc (.cells #[.int .u8 v] 5)) = .ok (.string (ofL [u])) (W.alloc (.cells #[.int .u8 v] 5)) := by
  subst h
  exact run_convert_bytes_back (P := Tryz.prog) _ 72 9 5 ⟨W.heap.size, 0, none⟩ 1 [u] Tryz.underlying72 Tryz.underlying5 Tryz.underlying9 (fun j hj => by
    obtain rfl : j = 0 := by simpa using hj
    rw [show (⟨W.heap.size, 0, none⟩ : Addr).add 0 = ⟨W.heap.size, 0, none⟩ from rfl, (Blk.made W 5 _).cell]; rfl)

theorem upB_yes (u : UInt8) (h : 97 ≤ u.toNat ∧ u.toNat ≤ 122) : ((u.toNat : Int) - 32) = ((upB u).toNat : Int) := by
  unfold upB
  rw [if_pos h, UInt8.toNat_sub_of_le _ _ (by rw [UInt8.le_iff_toNat_le]; show 32 ≤ _; omega)]
  show _ = ((u.toNat - 32 : Nat) : Int); omega
theorem upB_no (u : UInt8) (h : ¬ (97 ≤ u.toNat ∧ u.toNat ≤ 122)) : upB u = u := by unfold upB; rw [if_neg h]

theorem up_grow (s t x : ByteArray) (k : Nat) (hk : k < s.size) (u : UInt8) (hu : upB s[k] = u) (hx : x = ofL [u]) (ht : t.data.toList = (s.data.toList.take k).map upB) :
    (t ++ x).data.toList = (s.data.toList.take (k + 1)).map upB := by
  subst hx
  rw [List.take_succ_eq_append_getElem (by simpa using hk), List.map_append, ← ht, ByteArray.data_append, Array.toList_append]
  rw [← hu, byte_at s k hk]; rfl

theorem slice_dig (d : Nat) (i j : Int) (hd : d < 10) (hi : i = (d : Int)) (hj : j = (d : Int) + 1) (W : World) :
    (Instr.slice 9 (Value.string ⟨#[48, 49, 50, 51, 52, 53, 54, 55, 56, 57]⟩) (some (.int .u32 i)) (some (.int .u32 j)) none).run Tryz.prog W = .ok (.string (ofL [UInt8.ofNat (48 + d)])) W := by
  subst hi hj
  obtain rfl | rfl | rfl | rfl | rfl | rfl | rfl | rfl | rfl | rfl : d = 0 ∨ d = 1 ∨ d = 2 ∨ d = 3 ∨ d = 4 ∨ d = 5 ∨ d = 6 ∨ d = 7 ∨ d = 8 ∨ d = 9 := by omega
  all_goals kernel_rfl

theorem ofL_data (l : List UInt8) : (ofL l).data.toList = l := rfl
theorem ba_ext {x y : ByteArray} (h : x.data.toList = y.data.toList) : x = y := by
  cases x; cases y; congr; exact Array.toList_inj.1 h
theorem ofL_self (s : ByteArray) : ofL s.data.toList = s := ba_ext rfl

theorem dig_grow (n k : Nat) (b x : ByteArray) (h10 : 10 ≤ k) (hx : x = ofL [UInt8.ofNat (48 + k % 10)]) (h : Lib.decDigits n = Lib.decDigits k ++ b.data.toList) :
    Lib.decDigits n = Lib.decDigits (k / 10) ++ (x ++ b).data.toList := by
  subst hx
  rw [h, Lib.decDigits, dif_neg (by omega), ByteArray.data_append, Array.toList_append, ofL_data, List.append_assoc]

set_option maxRecDepth 100000 in
set_option maxHeartbeats 400000 in
theorem rDecimal_any (n : Nat) (w : World) (hn : n < 4294967296) :
    Calls Tryz.prog 46 #[.int .u32 n] w fun e w' => e = .returned (.string (ofL (Lib.decDigits n))) ∧ w' = w := by
  go_enter Tryz.func46, Tryz.ntmps46
  go_wp2
  go_loop [0, 3] (fun m t => ∃ (k : Nat) (b : ByteArray), k ≤ n ∧ m = .int .u32 k ∧ t = .string b ∧ b.size ≤ n - k ∧ Lib.decDigits n = Lib.decDigits k ++ b.data.toList) (fun m _ => (intOf m).toNat)
  case atStart => exact ⟨n, ⟨#[]⟩, by omega, rfl, rfl, by simp [ByteArray.size], by simp⟩
  case round =>
    obtain ⟨k, b, hk, rfl, rfl, hb, ht⟩ := hrel
    have HT := Lib.hid ht
    clear ht
    by_cases h10 : 10 ≤ k
    · have hs := slice_dig (k % 10) ((k : Int) % 10) ((k : Int) % 10 + 1) (by omega) (by omega) (by omega)
      have hxl : (ofL [UInt8.ofNat (48 + k % 10)]).size ≤ 1 := Nat.le_refl _
      generalize hx : ofL [UInt8.ofNat (48 + k % 10)] = x at hs hxl
      have HX := Lib.hid hx
      clear hx
      go_wp2_with fail
      go_round
      case rel => exact ⟨k / 10, _, by omega, by go_num, rfl, by rw [ByteArray.size_append]; omega, dig_grow n k b x h10 HX.out.symm HT.out⟩
      case measure => simp [intOf]; omega
    · have hs := slice_dig k (k : Int) ((k : Int) + 1) (by omega) rfl rfl
      have hxl : (ofL [UInt8.ofNat (48 + k)]).size ≤ 1 := Nat.le_refl _
      generalize hx : ofL [UInt8.ofNat (48 + k)] = x at hs hxl
      have R : Hid (ofL (Lib.decDigits n) = x ++ b) := Lib.hid (by
        apply ba_ext
        rw [← hx, ofL_data, HT.out, Lib.decDigits, dif_pos (by omega), ByteArray.data_append, Array.toList_append, ofL_data])
      clear hx
      go_wp2_with fail
      go_ret
      exact ⟨by rw [R.out]; rfl, rfl⟩
theorem ofL_size (l : List UInt8) : (ofL l).size = l.length := by show l.toArray.size = _; rw [List.size_toArray]
theorem u8_ne {x : UInt8} {v : Nat} (hv : v < 256) (h : x ≠ UInt8.ofNat v) : ((x.toNat : Int) == (v : Int)) = false := by
  rw [beq_eq_false_iff_ne]
  intro e
  apply h
  apply UInt8.toNat_inj.1
  rw [UInt8.toNat_ofNat']
  omega
theorem u8_bne {x : UInt8} {v : Nat} (hv : v < 256) (h : x ≠ UInt8.ofNat v) : ((x.toNat : Int) != (v : Int)) = true := by
  have := u8_ne hv h
  simpa [bne] using this
end Go.Proofs.YtpcffnhbodjpbaaGreatDoor

namespace Go.Proofs.YtpcffnhbodjpbaaGreatDoor
open Go.RowKit

def digitB (b : UInt8) : Bool := decide (48 ≤ b.toNat) && decide (b.toNat ≤ 57)
def valL (l : List UInt8) : Nat := l.foldl (fun a c => 10 * a + (c.toNat - 48)) 0
/-- The number whose decimal form the bytes are, if it is below 2 to the 32. -/
def numB (l : List UInt8) : Option Nat :=
  if 10 < l.length then none else if l.all digitB then (if 4294967295 < valL l ∨ Lib.decDigits (valL l) ≠ l then none else some (valL l)) else none

theorem valL_snoc (l : List UInt8) (c : UInt8) : valL (l ++ [c]) = 10 * valL l + (c.toNat - 48) := by simp [valL]
theorem snoc_ind {α : Type} {P : List α → Prop} (h0 : P []) (hs : ∀ l c, P l → P (l ++ [c])) (l : List α) : P l := by
  have h : ∀ r : List α, P r.reverse := fun r => by
    induction r with
    | nil => exact h0
    | cons c r ih => rw [List.reverse_cons]; exact hs _ _ ih
  simpa using h l.reverse
theorem valL_lt (l : List UInt8) (h : l.all digitB = true) : valL l < 10 ^ l.length := by
  revert h
  refine snoc_ind (P := fun l => l.all digitB = true → valL l < 10 ^ l.length) (fun _ => by decide) (fun l c ih h => ?_) l
  · rw [List.all_append, Bool.and_eq_true] at h
    have hc : digitB c = true := by simpa using h.2
    have := ih h.1
    simp only [digitB, Bool.and_eq_true, decide_eq_true_eq] at hc
    rw [valL_snoc, List.length_append, List.length_singleton, Nat.pow_succ]
    omega

theorem numB_long (l : List UInt8) (h : 10 < l.length) : numB l = none := by rw [numB, if_pos h]
theorem numB_bad (l : List UInt8) (h : l.all digitB = false) : numB l = none := by rw [numB]; split <;> simp [h]
theorem numB_ok (l : List UInt8) (h : ¬ 10 < l.length) (ha : l.all digitB = true) (v : Nat) (hv : valL l = v) : numB l = if 4294967295 < v ∨ Lib.decDigits v ≠ l then none else some v := by
  rw [numB, if_neg h, if_pos ha, hv]

theorem val_step (s : ByteArray) (k v : Nat) (hk : k < s.size) (hv : valL (s.data.toList.take k) = v) (ha : (s.data.toList.take k).all digitB = true) (h1 : 48 ≤ s[k].toNat) (h2 : s[k].toNat ≤ 57) :
    valL (s.data.toList.take (k + 1)) = 10 * v + (s[k].toNat - 48) ∧ (s.data.toList.take (k + 1)).all digitB = true := by
  have hl : k < s.data.toList.length := by simpa using hk
  refine ⟨?_, take_all_yes hl ha (by rw [byte_at s k hk]; simp [digitB, h1, h2])⟩
  rw [List.take_succ_eq_append_getElem hl, valL_snoc, hv, byte_at s k hk]

def numV (o : Option Nat) : Value := .tuple #[.int .u32 (o.getD 0 : Nat), .bool o.isSome]

end Go.Proofs.YtpcffnhbodjpbaaGreatDoor
