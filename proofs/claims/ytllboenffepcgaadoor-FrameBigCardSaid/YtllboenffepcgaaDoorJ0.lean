/- Plain lemmas on memory that the walks of this claim share: a block that is known whole, and what keeps it. · The walks of package char: the class of atom bytes. · The walks of package char and of its reference: classes of bytes, strings in a class. · The walks of package char: Upper and Same, with their references. · The walks of the reference of package char: classes, strings in a class. · The walks of the reference of package char: Upper, Decimal, Number. · The walks of the reference of package char: Number. · Plain laws on decimal forms: the number that a string denotes, by the reference's way and by strconv's. · Plain laws on the forms of strings: what the program's and the reference's ways of finding an announced length give is one. -/
import Derived.WalkKit
import Derived.ProofKit
import Derived.OpenShut
import Derived.Below
import Derived.Lib.Hide
import Derived.Outline
import Derived.RegionTactic
import Derived.BigRegion
import Derived.BigQuiet
import Derived.Deep.QuietTactic
import Derived.Deep.Draws
import Derived.Laws.Rows
import Derived.Laws.OwnMore
import Derived.ChangeSame
import Derived.Test.YtllboenffepcgaaDoorProg
import Derived.StillTailTactics
import Derived.Deep.RegionWith
import Derived.Deep.RegionHeld3
import Derived.Lib.ConvBytes
import Derived.Lib.AtoiErrMem
import Derived.Lib.Itoa
import Derived.Lib.ItoaNum
import Derived.Lib.ParseIntBCases
set_option linter.unusedVariables false
set_option linter.unusedSimpArgs false
namespace Go.Proofs.YtllboenffepcgaaDoor
open Go.RowKit

/-- Block g holds just the cells cs of type t, and none is frozen. -/
def Blk (w : World) (g : Nat) (t : TypeId) (cs : Array Value) : Prop := w.heap[g]? = some (.cells cs t (0, 0))

section
variable {w w' : World} {g : Nat} {t : TypeId} {cs : Array Value}
theorem Blk.lt (h : Blk w g t cs) : g < w.heap.size := by
  unfold Blk at h
  exact (Array.getElem?_eq_some_iff.1 h).1
theorem Blk.cell (h : Blk w g t cs) (i : Nat) : w.cell? ⟨g, i, none⟩ = cs[i]? := by
  unfold Blk at h
  simp [World.cell?, h]
theorem Blk.frz (h : Blk w g t cs) (i : Nat) : w.frozen? ⟨g, i, none⟩ = false := by
  unfold Blk at h
  simp [World.frozen?, h]
theorem Blk.made (w : World) (t : TypeId) (cs : Array Value) : Blk (w.alloc (.cells cs t)) w.heap.size t cs := heap_alloc_new w _
theorem Blk.drew (h : Blk w g t cs) : Blk w.drew g t cs := h
theorem Blk.drewN (h : Blk w g t cs) (n : Nat) : Blk (w.drewN n) g t cs := h
theorem Blk.past (h : Blk w g t cs) (o : Obj) : Blk (w.alloc o) g t cs := (Below.heap_alloc w o g h.lt).trans h
theorem Blk.put (h : Blk w g t cs) (i : Nat) (u : Value) : Blk (w.setCell ⟨g, i, none⟩ u) g t (cs.setIfInBounds i u) := by
  unfold Blk at h ⊢
  simp [World.setCell, Array.getElem?_modify, h]
theorem Blk.far (h : Blk w g t cs) {p : Addr} (hp : g ≠ p.block) (u : Value) : Blk (w.setCell p u) g t cs := (Below.heap_setCell w p u g hp).trans h
theorem Blk.below {B : Nat} (h : Blk w g t cs) (hb : Below B w w') (hg : g < B) : Blk w' g t cs := (hb.block g hg).trans h
end

theorem Below.many {B : Nat} {a w : World} (h : Below B a w) (n : Nat) : Below B a (w.drewN n) := ⟨h.os, h.tape, h.output, h.size, h.block⟩

section
open Go.WideShapes Go.ChangeShapes
/-- The row's last step where below the heap's old size nothing has turned. -/
theorem post_of_below {H : Type} {enc : TypeId × Value → H} {P : Program} {f : Func} {s : ChangeSpec} {apart fresh handsOn again : Bool} {W W' : World} {args : Array Value} {v : Value} {ds gs : List (DataW H)} {before pa pv : List MemPlace}
    (hW : DataW.Whole enc P f.params.toList s.vars apart W args.toList ds gs before)
    (hres : ∀ (b : Nat) (sp : Nat → Bool) (hd : Bool), DataW.TrodAll enc P W' b sp hd f.resultTypes.toList (v.resultList f.resultTypes.size) (s.fn H (ds ++ gs)).results [])
    (hargs : ∀ sp : Nat → Bool, (∀ p ∈ before, sp p.block = true) → DataW.TrodAll enc P W' 0 sp true f.params.toList args.toList (s.fn H (ds ++ gs)).args pa)
    (hvars : ∀ sp : Nat → Bool, (∀ p ∈ before, sp p.block = true) → DataW.TrodVars enc P W' sp s.vars (s.fn H (ds ++ gs)).vars pv)
    (hps : before = pa ++ pv) (hb : Below W.heap.size W W')
    (hok : ∀ (j : Nat) (t : TypeId) (r : Value), f.resultTypes[j]? = some t → (v.resultList f.resultTypes.size)[j]? = some r → Value.okWide P W' .any 0 t r) :
    s.post enc P f apart fresh handsOn again W args v W' := by
  have old : ∀ p ∈ before, (fun b => decide (b < W.heap.size)) p.block = true := fun p hp => decide_eq_true (hW.lt p hp)
  have all : ∀ p ∈ before, (fun _ : Nat => true) p.block = true := fun _ _ => rfl
  refine ⟨ds, gs, before, [], pa, pv, hW, hres _ _ _, hargs _ old, hvars _ old, World.keptBut_mono (fun p hp => ⟨hp, .inr (by rw [hps] at hp; exact List.mem_append.1 hp)⟩) (hb.frame (· ∈ before)), fun _ => ⟨hok, ?_⟩⟩
  obtain ⟨_, _, _, _, _, hz, hn⟩ := id hW
  refine ⟨_, _, ([] ++ pa) ++ pv, ⟨[] ++ pa, pv, trodAll_append (hargs _ all) (hres _ _ _), hvars _ all, rfl, fun b off hp => ?_, fun ha => ?_⟩, fun p hp _ => ?_⟩
  · have hin : MemPlace.cell b off ∈ before := by rw [hps]; exact hp
    exact (hb.frozen (hW.lt _ hin)).trans (hz b off hin)
  · have h := hn ha
    rw [hps] at h
    exact h
  · rw [hps]; exact hp
end
end Go.Proofs.YtllboenffepcgaaDoor
namespace Go.Proofs.YtllboenffepcgaaDoor
open Go.RowKit

def word (k : Nat) : List Int :=
  match k with
  | 0 => [0, 0, 0, 0]
  | 1 => [1099511627776, 0, 0, 0]
  | 2 => [3298534883328, 0, 0, 0]
  | 3 => [3298534883328, 576460752303423488, 0, 0]
  | 4 => [3435973836800, 576460752303423488, 0, 0]
  | 5 => [7834020347904, 576460752303423488, 0, 0]
  | 6 => [7851200217088, 576460752303423488, 0, 0]
  | 7 => [7851200217088, 576460752571858944, 0, 0]
  | _ => [7851200217088, 576460753108729856, 0, 0]
def cells64 (l : List Int) : Array Value := (l.map (Value.int .u64)).toArray

def sp : ByteArray := ⟨#[40, 41, 123, 37, 42, 34, 92, 93]⟩
theorem sp_step (k : Nat) (hk : k < 8) : word (k + 1) = (word k).set ((sp.data.getD k 0).toNat / 64) (bits .or .u64 ((word k).getD ((sp.data.getD k 0).toNat / 64) 0) (IntKind.u64.wrap (2 ^ ((sp.data.getD k 0).toNat % 64)))) := by
  have h : ∀ k : Fin 8, word (k.val + 1) = (word k.val).set ((sp.data.getD k.val 0).toNat / 64) (bits .or .u64 ((word k.val).getD ((sp.data.getD k.val 0).toNat / 64) 0) (IntKind.u64.wrap (2 ^ ((sp.data.getD k.val 0).toNat % 64)))) := by decide +kernel
  exact h ⟨k, hk⟩

def inSet (c : Int) : Bool := bits BinOp.and IntKind.u64 ((word 8).getD (c / 64).toNat 0 / 2 ^ (c % 64).toNat) 1 == 1

def atomB (c : Int) : Bool := decide (32 < c) && decide (c ≤ 126) && !inSet c

theorem word_len (k : Nat) : (word k).length = 4 := by unfold word; split <;> rfl
theorem sp_lt (k : Nat) (hk : k < 8) : (sp.data.getD k 0).toNat / 64 < 4 := by
  have := (sp.data.getD k 0).toNat_lt; omega
theorem cells64_at (l : List Int) (j : Nat) (hj : j < l.length) : (cells64 l)[j]? = some (.int .u64 (l.getD j 0)) := by
  simp [cells64, hj]
theorem cells64_set (l : List Int) (j : Nat) (v : Int) : (cells64 l).setIfInBounds j (.int .u64 v) = cells64 (l.set j v) := by
  simp [cells64, List.map_set]


theorem sp_get (k : Nat) (hk : k < 8) : (({ data := #[40, 41, 123, 37, 42, 34, 92, 93] } : ByteArray)[k]'hk).toNat = (sp.data.getD k 0).toNat := by
  rw [Array.getD_eq_getD_getElem?, Array.getElem?_eq_getElem (show k < sp.data.size from hk)]; rfl
theorem atomB_in (c : Int) (h1 : 32 < c) (h2 : c ≤ 126) (b : Bool) (h : inSet c = b) : atomB c = !b := by
  simp [atomB, h1, h2, h]
theorem atomB_hi (c : Int) (h2 : ¬ c ≤ 126) : atomB c = false := by simp [atomB, h2]
theorem atomB_lo (c : Int) (h2 : ¬ 32 < c) : atomB c = false := by simp [atomB, h2]

def tagB (c : Int) : Bool := (c == 93) || (!(c == 43) && atomB c)
end Go.Proofs.YtllboenffepcgaaDoor
namespace Go.Proofs.YtllboenffepcgaaDoor
open Go.RowKit

def textB (c : Int) : Bool := c != 0 && (decide (c < 128) && (c != 13 && c != 10))

theorem andNot32 (c : Int) (hc : 97 ≤ c) (hc2 : c ≤ 122) : bits BinOp.andNot IntKind.u8 c 32 = c - 32 := by
  have h : ∀ k : Fin 26, bits BinOp.andNot IntKind.u8 ((k.val : Int) + 97) 32 = (k.val : Int) + 97 - 32 := by decide +kernel
  have := h ⟨(c - 97).toNat, by omega⟩
  rwa [show (((⟨(c - 97).toNat, by omega⟩ : Fin 26).val : Int) + 97) = c from by simp; omega] at this
theorem take_all_no {α : Type} {q : α → Bool} {l : List α} {k : Nat} (hk : k < l.length) (h : q l[k] = false) : l.all q = false := by
  rw [List.all_eq_false]; exact ⟨_, List.getElem_mem hk, by simp [h]⟩
theorem take_all_yes {α : Type} {q : α → Bool} {l : List α} {k : Nat} (hk : k < l.length) (ht : (l.take k).all q = true) (h : q l[k] = true) : (l.take (k + 1)).all q = true := by
  rw [List.take_succ_eq_append_getElem hk, List.all_append, ht]; simp [h]
theorem byte_at (s : ByteArray) (k : Nat) (h : k < s.size) : s.data.toList[k]'(by simpa using h) = s[k] := rfl

theorem str_cases (s : ByteArray) : s = ⟨#[]⟩ ∨ (¬ s.toList = [] ∧ s.toList.isEmpty = false ∧ s.data.toList.isEmpty = false) := by
  rcases s with ⟨⟨l⟩⟩
  cases l with
  | nil => exact .inl rfl
  | cons a l => right; rw [ByteArray.toList_eq]; simp

def allS (p : Int → Bool) (s : ByteArray) : Bool := !s.data.toList.isEmpty && s.data.toList.all fun b => p b.toNat

end Go.Proofs.YtllboenffepcgaaDoor
namespace Go.Proofs.YtllboenffepcgaaDoor
open Go.RowKit

/-- From cell 0 on, block B holds the bytes l, and they may be written. -/
def BytesAt (w : World) (B : Nat) (l : List UInt8) : Prop :=
  ∀ j (h : j < l.length), w.cell? ⟨B, j, none⟩ = some (.int .u8 (l[j].toNat : Int)) ∧ w.frozen? ⟨B, j, none⟩ = false
section
variable {w w' : World} {B : Nat} {l : List UInt8}
theorem BytesAt.drew (h : BytesAt w B l) : BytesAt w.drew B l := h
theorem BytesAt.past (h : BytesAt w B l) (hB : B < w.heap.size) (o : Obj) : BytesAt (w.alloc o) B l := fun j hj => by
  have hb := (Below.refl w.heap.size w).alloc (Nat.le_refl _) o
  exact ⟨(hb.cell (p := ⟨B, j, none⟩) hB).trans (h j hj).1, (hb.frozen (p := ⟨B, j, none⟩) hB).trans (h j hj).2⟩
theorem BytesAt.below {C : Nat} (h : BytesAt w B l) (hb : Below C w w') (hB : B < C) : BytesAt w' B l := fun j hj =>
  ⟨(hb.cell (p := ⟨B, j, none⟩) hB).trans (h j hj).1, (hb.frozen (p := ⟨B, j, none⟩) hB).trans (h j hj).2⟩
theorem BytesAt.put (h : BytesAt w B l) (k : Nat) (hk : k < l.length) (u : UInt8) : BytesAt (w.setCell ⟨B, k, none⟩ (.int .u8 (u.toNat : Int))) B (l.set k u) := fun j hj => by
  have hj' : j < l.length := by simpa using hj
  refine ⟨?_, ?_⟩
  · by_cases e : k = j
    · subst e
      rw [World.cell?_setCell_same _ _ _ (h k hk).1]; simp
    · rw [World.cell?_setCell_other _ _ _ _ (by simp [e]), (h j hj').1]
      simp [List.getElem_set, e]
  · rw [World.frozen?_setCell]; exact (h j hj').2
end

def upB (b : UInt8) : UInt8 := if 97 ≤ b.toNat ∧ b.toNat ≤ 122 then b - 32 else b

theorem up_step (l : List UInt8) (k : Nat) (hk : k < l.length) : ((l.take k).map upB ++ l.drop k).set k (upB l[k]) = (l.take (k + 1)).map upB ++ l.drop (k + 1) := by
  rw [List.set_append_right _ _ (by simp; omega)]
  have e : k - ((l.take k).map upB).length = 0 := by simp; omega
  rw [e, List.drop_eq_getElem_cons hk, List.set_cons_zero, List.take_succ_eq_append_getElem hk, List.map_append]
  simp only [List.map_cons, List.map_nil, List.append_assoc, List.cons_append, List.nil_append]

theorem bytesAt_conv (w : World) (e : TypeId) (s : ByteArray) : BytesAt (Lib.bytesWorld w e s) w.heap.size s.data.toList := fun j hj => by
  have hj' : j < s.size := by simpa using hj
  refine ⟨?_, ?_⟩
  · rw [Lib.bytesWorld_cell w e s j hj', List.getD_eq_getElem?_getD, List.getElem?_eq_getElem hj]; rfl
  · have := Lib.bytesWorld_at_new w e s
    simp [World.frozen?, this, Lib.bytesCells]
    omega

def upS (s : ByteArray) : ByteArray := ⟨(s.data.toList.map upB).toArray⟩
theorem upS_size (s : ByteArray) : (upS s).size = s.size := by
  show (s.data.toList.map upB).toArray.size = _
  rw [List.size_toArray, List.length_map, Array.length_toList]; rfl
/-- Go's == on strings, as the walk spells it. -/
def eqS (x y : ByteArray) : Bool := x.toList == y.toList
theorem eqS_iff (x y : ByteArray) : eqS x y = true ↔ x = y := by
  unfold eqS
  rw [beq_iff_eq, ByteArray.toList_eq, ByteArray.toList_eq]
  exact ⟨fun h => by cases x; cases y; congr; exact Array.toList_inj.1 h, fun h => by rw [h]⟩

end Go.Proofs.YtllboenffepcgaaDoor
namespace Go.Proofs.YtllboenffepcgaaDoor
open Go.RowKit

theorem atomB_tab : ∀ c : Fin 256, atomB c.val = (!(([40, 41, 123, 37, 42, 34, 92, 93] : List Int).contains c.val) && (decide (32 < (c.val : Int)) && decide ((c.val : Int) < 127))) := by decide +kernel
theorem atomB_ref (c : Int) (hc : 0 ≤ c) (hc2 : c < 256) : atomB c = (!(([40, 41, 123, 37, 42, 34, 92, 93] : List Int).contains c) && (decide (32 < c) && decide (c < 127))) := by
  have := atomB_tab ⟨c.toNat, by omega⟩
  simp only [Int.toNat_of_nonneg hc] at this
  exact this

end Go.Proofs.YtllboenffepcgaaDoor
namespace Go.Proofs.YtllboenffepcgaaDoor
open Go.RowKit

/-- The bytes of a string that is given by a list. -/
def ofL (l : List UInt8) : ByteArray := ⟨l.toArray⟩


theorem conv_one (W : World) (v : Int) (u : UInt8) (h : v = (u.toNat : Int)) :
    (convert 26 9 (.slice (some ⟨W.heap.size, 0, none⟩) 1 1)).run Tryd.prog (W.alloc (.cells #[.int .u8 v] 5)) = .ok (.string (ofL [u])) (W.alloc (.cells #[.int .u8 v] 5)) := by
  subst h
  exact run_convert_bytes_back (P := Tryd.prog) _ 26 9 5 ⟨W.heap.size, 0, none⟩ 1 [u] Tryd.underlying26 Tryd.underlying5 Tryd.underlying9 (fun j hj => by
    obtain rfl : j = 0 := by simpa using hj
    rw [show (⟨W.heap.size, 0, none⟩ : Addr).add 0 = ⟨W.heap.size, 0, none⟩ from rfl, (Blk.made W 5 _).cell]; rfl)

theorem upB_yes (u : UInt8) (h : 97 ≤ u.toNat ∧ u.toNat ≤ 122) : ((u.toNat : Int) - 32) = ((upB u).toNat : Int) := by
  unfold upB
  rw [if_pos h, UInt8.toNat_sub_of_le _ _ (by rw [UInt8.le_iff_toNat_le]; show 32 ≤ _; omega)]
  show _ = ((u.toNat - 32 : Nat) : Int); omega
theorem upB_no (u : UInt8) (h : ¬ (97 ≤ u.toNat ∧ u.toNat ≤ 122)) : upB u = u := by unfold upB; rw [if_neg h]

theorem up_grow (s t x : ByteArray) (k : Nat) (hk : k < s.size) (u : UInt8) (hu : upB s[k] = u) (hx : x = ofL [u]) (ht : t.data.toList = (s.data.toList.take k).map upB) :
    (t ++ x).data.toList = (s.data.toList.take (k + 1)).map upB := by
  subst hx
  rw [List.take_succ_eq_append_getElem (by simpa using hk), List.map_append, ← ht, ByteArray.data_append, Array.toList_append]
  rw [← hu, byte_at s k hk]; rfl

theorem slice_dig (d : Nat) (i j : Int) (hd : d < 10) (hi : i = (d : Int)) (hj : j = (d : Int) + 1) (W : World) :
    (Instr.slice 9 (Value.string ⟨#[48, 49, 50, 51, 52, 53, 54, 55, 56, 57]⟩) (some (.int .u32 i)) (some (.int .u32 j)) none).run Tryd.prog W = .ok (.string (ofL [UInt8.ofNat (48 + d)])) W := by
  subst hi hj
  obtain rfl | rfl | rfl | rfl | rfl | rfl | rfl | rfl | rfl | rfl : d = 0 ∨ d = 1 ∨ d = 2 ∨ d = 3 ∨ d = 4 ∨ d = 5 ∨ d = 6 ∨ d = 7 ∨ d = 8 ∨ d = 9 := by omega
  all_goals kernel_rfl

theorem ofL_data (l : List UInt8) : (ofL l).data.toList = l := rfl
theorem ba_ext {x y : ByteArray} (h : x.data.toList = y.data.toList) : x = y := by
  cases x; cases y; congr; exact Array.toList_inj.1 h
theorem ofL_self (s : ByteArray) : ofL s.data.toList = s := ba_ext rfl

theorem dig_grow (n k : Nat) (b x : ByteArray) (h10 : 10 ≤ k) (hx : x = ofL [UInt8.ofNat (48 + k % 10)]) (h : Lib.decDigits n = Lib.decDigits k ++ b.data.toList) :
    Lib.decDigits n = Lib.decDigits (k / 10) ++ (x ++ b).data.toList := by
  subst hx
  rw [h, Lib.decDigits, dif_neg (by omega), ByteArray.data_append, Array.toList_append, ofL_data, List.append_assoc]

set_option maxRecDepth 100000 in
set_option maxHeartbeats 400000 in
theorem rDecimal_any (n : Nat) (w : World) (hn : n < 4294967296) :
    Calls Tryd.prog 60 #[.int .u32 n] w fun e w' => e = .returned (.string (ofL (Lib.decDigits n))) ∧ w' = w := by
  go_enter Tryd.func60, Tryd.ntmps60
  go_wp2
  go_loop [0, 3] (fun m t => ∃ (k : Nat) (b : ByteArray), k ≤ n ∧ m = .int .u32 k ∧ t = .string b ∧ b.size ≤ n - k ∧ Lib.decDigits n = Lib.decDigits k ++ b.data.toList) (fun m _ => (intOf m).toNat)
  case atStart => exact ⟨n, ⟨#[]⟩, by omega, rfl, rfl, by simp [ByteArray.size], by simp⟩
  case round =>
    obtain ⟨k, b, hk, rfl, rfl, hb, ht⟩ := hrel
    have HT := Lib.hid ht
    clear ht
    by_cases h10 : 10 ≤ k
    · have hs := slice_dig (k % 10) ((k : Int) % 10) ((k : Int) % 10 + 1) (by omega) (by omega) (by omega)
      have hxl : (ofL [UInt8.ofNat (48 + k % 10)]).size ≤ 1 := Nat.le_refl _
      generalize hx : ofL [UInt8.ofNat (48 + k % 10)] = x at hs hxl
      have HX := Lib.hid hx
      clear hx
      go_wp2_with fail
      go_round
      case rel => exact ⟨k / 10, _, by omega, by go_num, rfl, by rw [ByteArray.size_append]; omega, dig_grow n k b x h10 HX.out.symm HT.out⟩
      case measure => simp [intOf]; omega
    · have hs := slice_dig k (k : Int) ((k : Int) + 1) (by omega) rfl rfl
      have hxl : (ofL [UInt8.ofNat (48 + k)]).size ≤ 1 := Nat.le_refl _
      generalize hx : ofL [UInt8.ofNat (48 + k)] = x at hs hxl
      have R : Hid (ofL (Lib.decDigits n) = x ++ b) := Lib.hid (by
        apply ba_ext
        rw [← hx, ofL_data, HT.out, Lib.decDigits, dif_pos (by omega), ByteArray.data_append, Array.toList_append, ofL_data])
      clear hx
      go_wp2_with fail
      go_ret
      exact ⟨by rw [R.out]; rfl, rfl⟩
theorem ofL_size (l : List UInt8) : (ofL l).size = l.length := by show l.toArray.size = _; rw [List.size_toArray]
theorem u8_ne {x : UInt8} {v : Nat} (hv : v < 256) (h : x ≠ UInt8.ofNat v) : ((x.toNat : Int) == (v : Int)) = false := by
  rw [beq_eq_false_iff_ne]
  intro e
  apply h
  apply UInt8.toNat_inj.1
  rw [UInt8.toNat_ofNat']
  omega
theorem u8_bne {x : UInt8} {v : Nat} (hv : v < 256) (h : x ≠ UInt8.ofNat v) : ((x.toNat : Int) != (v : Int)) = true := by
  have := u8_ne hv h
  simpa [bne] using this
end Go.Proofs.YtllboenffepcgaaDoor
namespace Go.Proofs.YtllboenffepcgaaDoor
open Go.RowKit

def digitB (b : UInt8) : Bool := decide (48 ≤ b.toNat) && decide (b.toNat ≤ 57)
def valL (l : List UInt8) : Nat := l.foldl (fun a c => 10 * a + (c.toNat - 48)) 0
/-- The number whose decimal form the bytes are, if it is below 2 to the 32. -/
def numB (l : List UInt8) : Option Nat :=
  if 10 < l.length then none else if l.all digitB then (if 4294967295 < valL l ∨ Lib.decDigits (valL l) ≠ l then none else some (valL l)) else none

theorem valL_snoc (l : List UInt8) (c : UInt8) : valL (l ++ [c]) = 10 * valL l + (c.toNat - 48) := by simp [valL]
theorem snoc_ind {α : Type} {P : List α → Prop} (h0 : P []) (hs : ∀ l c, P l → P (l ++ [c])) (l : List α) : P l := by
  have h : ∀ r : List α, P r.reverse := fun r => by
    induction r with
    | nil => exact h0
    | cons c r ih => rw [List.reverse_cons]; exact hs _ _ ih
  simpa using h l.reverse
theorem valL_lt (l : List UInt8) (h : l.all digitB = true) : valL l < 10 ^ l.length := by
  revert h
  refine snoc_ind (P := fun l => l.all digitB = true → valL l < 10 ^ l.length) (fun _ => by decide) (fun l c ih h => ?_) l
  · rw [List.all_append, Bool.and_eq_true] at h
    have hc : digitB c = true := by simpa using h.2
    have := ih h.1
    simp only [digitB, Bool.and_eq_true, decide_eq_true_eq] at hc
    rw [valL_snoc, List.length_append, List.length_singleton, Nat.pow_succ]
    omega

theorem numB_long (l : List UInt8) (h : 10 < l.length) : numB l = none := by rw [numB, if_pos h]
theorem numB_bad (l : List UInt8) (h : l.all digitB = false) : numB l = none := by rw [numB]; split <;> simp [h]
theorem numB_ok (l : List UInt8) (h : ¬ 10 < l.length) (ha : l.all digitB = true) (v : Nat) (hv : valL l = v) : numB l = if 4294967295 < v ∨ Lib.decDigits v ≠ l then none else some v := by
  rw [numB, if_neg h, if_pos ha, hv]

set_option maxRecDepth 100000 in
set_option maxHeartbeats 400000 in
theorem rNumber_long (s : ByteArray) (w : World) (hs : s.size ≤ maxLen) (h : 10 < s.size) :
    Calls Tryd.prog 48 #[.string s] w fun e w' => e = .returned (.tuple #[.int .u32 0, .bool false]) ∧ w' = w := by
  unfold maxLen at hs
  go_enter Tryd.func48, Tryd.ntmps48
  go_wp2_with fail
  go_ret2
  exact ⟨rfl, rfl⟩

theorem val_step (s : ByteArray) (k v : Nat) (hk : k < s.size) (hv : valL (s.data.toList.take k) = v) (ha : (s.data.toList.take k).all digitB = true) (h1 : 48 ≤ s[k].toNat) (h2 : s[k].toNat ≤ 57) :
    valL (s.data.toList.take (k + 1)) = 10 * v + (s[k].toNat - 48) ∧ (s.data.toList.take (k + 1)).all digitB = true := by
  have hl : k < s.data.toList.length := by simpa using hk
  refine ⟨?_, take_all_yes hl ha (by rw [byte_at s k hk]; simp [digitB, h1, h2])⟩
  rw [List.take_succ_eq_append_getElem hl, valL_snoc, hv, byte_at s k hk]

def numV (o : Option Nat) : Value := .tuple #[.int .u32 (o.getD 0 : Nat), .bool o.isSome]

set_option maxRecDepth 100000 in
set_option maxHeartbeats 800000 in
theorem rNumber_short (s : ByteArray) (w : World) (h : ¬ 10 < s.size) :
    Calls Tryd.prog 48 #[.string s] w fun e w' => e = .returned (numV (numB s.data.toList)) ∧ w' = w := by
  have hlen : s.data.toList.length = s.size := by simp
  obtain ⟨o, ho⟩ : ∃ o, numB s.data.toList = o := ⟨_, rfl⟩
  have HO := Lib.hid ho
  rw [ho]
  clear ho
  go_enter Tryd.func48, Tryd.ntmps48
  go_wp2_with fail
  go_loop [4, 5] (fun n i => ∃ (k v : Nat), k ≤ s.size ∧ i = .int .i64 k ∧ n = .int .u64 v ∧ v < 10000000000 ∧ valL (s.data.toList.take k) = v ∧ (s.data.toList.take k).all digitB = true) (fun _ i => s.size - (intOf i).toNat)
  case atStart => exact ⟨0, 0, by omega, rfl, rfl, by omega, rfl, rfl⟩
  case round =>
    obtain ⟨k, v, hk, rfl, rfl, hv10, hv, ha⟩ := hrel
    have HV := Lib.hid hv
    have HA := Lib.hid ha
    have HL := Lib.hid hlen
    clear hv ha hlen
    by_cases hlt : k < s.size
    · have hi0 : (0 : Int) ≤ k := by omega
      have hi1 : (k : Int) < s.size := by omega
      have hu := s[k].toNat_lt
      by_cases h1 : 48 ≤ s[k].toNat
      · by_cases h2 : s[k].toNat ≤ 57
        · have hst := val_step s k v hlt HV.out HA.out h1 h2
          have HS := Lib.hid hst
          have hb : 10 * v + (s[k].toNat - 48) < 10000000000 := by
            have := valL_lt _ hst.2
            rw [hst.1, List.length_take] at this
            exact Nat.lt_of_lt_of_le this (Nat.pow_le_pow_right (by omega) (by have := HL.out; omega : min (k + 1) s.data.toList.length ≤ 10))
          clear hst
          go_wp2_with fail
          go_round
          case rel => exact ⟨k + 1, 10 * v + (s[k].toNat - 48), by omega, by go_num, by go_num, hb, HS.out⟩
          case measure => simp [intOf]; omega
        · have R : Hid (o = none) := Lib.hid (by rw [← HO.out]; exact numB_bad _ (take_all_no (by rw [HL.out]; exact hlt) (by rw [byte_at s k hlt]; simp [digitB, h2])))
          go_wp2_with fail
          go_ret2
          exact ⟨by rw [R.out]; rfl, rfl⟩
      · have R : Hid (o = none) := Lib.hid (by rw [← HO.out]; exact numB_bad _ (take_all_no (by rw [HL.out]; exact hlt) (by rw [byte_at s k hlt]; simp [digitB, h1])))
        go_wp2_with fail
        go_ret2
        exact ⟨by rw [R.out]; rfl, rfl⟩
    · have hall : s.data.toList.take k = s.data.toList := List.take_of_length_le (by rw [HL.out]; omega)
      have hN := numB_ok s.data.toList (by rw [HL.out]; exact h) (by rw [← hall]; exact HA.out) v (by rw [← hall]; exact HV.out)
      rw [HO.out] at hN
      clear hall
      by_cases hbig : 4294967295 < v
      · have R : Hid (o = none) := Lib.hid (by rw [hN, if_pos (.inl hbig)])
        clear hN
        go_wp2_with fail
        go_ret2
        exact ⟨by rw [R.out]; rfl, rfl⟩
      · have HN := Lib.hid hN
        clear hN
        go_wp2_with fail
        refine (rDecimal_any v w (by omega)).mono ?_
        rintro e w' ⟨rfl, rfl⟩
        generalize hx : ofL (Lib.decDigits v) = x
        by_cases he : x.toList = s.toList
        · have R : Hid (o = some v) := Lib.hid (by
            rw [HN.out, if_neg]
            rw [ByteArray.toList_eq, ByteArray.toList_eq, ← hx, ofL_data] at he
            rintro (h | h)
            · exact hbig h
            · exact h he)
          have e1 : (x.toList == s.toList) = true := by rw [beq_iff_eq]; exact he
          have e2 : (x.toList != s.toList) = false := by rw [bne, e1]; rfl
          clear hx he
          go_wp2_with fail
          go_ret2
          exact ⟨by rw [R.out]; rfl, rfl⟩
        · have R : Hid (o = none) := Lib.hid (by
            have hne : Lib.decDigits v ≠ s.data.toList := fun h => he (by rw [ByteArray.toList_eq, ByteArray.toList_eq, ← hx, ofL_data]; exact h)
            rw [HN.out, if_pos (.inr hne)])
          have e1 : (x.toList == s.toList) = false := by rw [beq_eq_false_iff_ne]; exact he
          have e2 : (x.toList != s.toList) = true := by rw [bne, e1]; rfl
          clear hx he
          go_wp2_with fail
          go_ret2
          exact ⟨by rw [R.out]; rfl, rfl⟩

theorem rNumber_any (s : ByteArray) (w : World) (hs : s.size ≤ maxLen) :
    Calls Tryd.prog 48 #[.string s] w fun e w' => e = .returned (numV (numB s.data.toList)) ∧ w' = w := by
  by_cases h : 10 < s.size
  · rw [numB_long _ (by simpa using h)]
    exact rNumber_long s w hs h
  · exact rNumber_short s w h
end Go.Proofs.YtllboenffepcgaaDoor
namespace Go.Proofs.YtllboenffepcgaaDoor
open Go.Lib

theorem dig_nat (d : Nat) (h : d < 10) : (UInt8.ofNat (48 + d)).toNat = 48 + d := by
  rw [UInt8.toNat_ofNat']; omega
theorem decDigits_small (n : Nat) (h : n < 10) : decDigits n = [UInt8.ofNat (48 + n)] := by rw [decDigits, dif_pos h]
theorem decDigits_big (n : Nat) (h : ¬ n < 10) : decDigits n = decDigits (n / 10) ++ [UInt8.ofNat (48 + n % 10)] := by rw [decDigits, dif_neg h]

theorem parseM_append (M : Nat) (r : List UInt8) : ∀ (l : List UInt8) (a : Nat) (b : Nat), parseUintM M a l = .ok b → parseUintM M a (l ++ r) = parseUintM M b r := by
  intro l
  induction l with
  | nil => intro a b h; rw [parseUintM] at h; injection h with h; subst h; rfl
  | cons c l ih =>
    intro a b h
    rw [List.cons_append]
    rw [parseUintM] at h ⊢
    split at h
    · rename_i h1
      rw [if_pos h1]
      split at h
      · cases h
      · rename_i h2
        rw [if_neg h2]
        split at h
        · cases h
        · rename_i h3
          rw [if_neg h3]
          exact ih _ _ h
    · cases h

theorem parseM_dec (M : Nat) (hM : M ≤ 4294967295) (n : Nat) (hn : n ≤ M) : parseUintM M 0 (decDigits n) = .ok n := by
  induction n using Nat.strongRecOn with
  | _ n ih =>
    by_cases h : n < 10
    · rw [decDigits_small n h, parseUintM, dig_nat n h, if_pos ⟨by omega, by omega⟩, if_neg (by omega), if_neg (by omega), parseUintM]
      congr 1; omega
    · rw [decDigits_big n h, parseM_append M _ _ _ _ (ih (n / 10) (by omega) (by omega)), parseUintM, dig_nat _ (by omega), if_pos ⟨by omega, by omega⟩, if_neg (by omega), if_neg (by omega), parseUintM]
      congr 1; omega
theorem decDigits_ne (n : Nat) : decDigits n ≠ [] := by
  intro h
  have := congrArg List.length h
  rw [decDigits_length] at this
  have := nDigits_pos n
  simp at *
  omega
theorem parse_dec (n : Nat) (hn : n ≤ 4294967295) : parseUintB 32 (decDigits n) = .ok n := by
  rw [parseUintB, if_neg (decDigits_ne n)]
  exact parseM_dec _ (by decide) n (by simpa using hn)

theorem val_dec (n : Nat) : valL (decDigits n) = n ∧ (decDigits n).all digitB = true := by
  induction n using Nat.strongRecOn with
  | _ n ih =>
    by_cases h : n < 10
    · rw [decDigits_small n h]
      refine ⟨?_, ?_⟩
      · show 10 * 0 + ((UInt8.ofNat (48 + n)).toNat - 48) = n
        rw [dig_nat n h]; omega
      · rw [List.all_cons, List.all_nil, Bool.and_true]
        unfold digitB
        rw [dig_nat n h, decide_eq_true (by omega), decide_eq_true (by omega)]; rfl
    · rw [decDigits_big n h, valL_snoc, (ih (n / 10) (by omega)).1, dig_nat _ (by omega), List.all_append, (ih (n / 10) (by omega)).2]
      refine ⟨by omega, ?_⟩
      rw [List.all_cons, List.all_nil, Bool.and_true, Bool.true_and]
      unfold digitB
      rw [dig_nat _ (by omega), decide_eq_true (by omega), decide_eq_true (by omega)]; rfl
theorem decDigits_len (n : Nat) (hn : n ≤ 4294967295) : (decDigits n).length ≤ 10 := by
  rw [decDigits_length]
  rcases Nat.lt_or_ge n 1 with h | h
  · rw [nDigits_small (by omega)]; omega
  · have h1 : ∀ k u : Nat, u < 10 ^ (k + 1) → nDigits u ≤ k + 1 := by
      intro k
      induction k with
      | zero => intro u hu; rw [nDigits_small (by simpa using hu)]; omega
      | succ k ih =>
        intro u hu
        by_cases h10 : u < 10
        · rw [nDigits_small h10]; omega
        · rw [nDigits_big h10]
          have := ih (u / 10) (by rw [Nat.pow_succ] at hu; omega)
          omega
    exact h1 9 n (by omega)

/-- 'numB' says: the bytes are the decimal form of a number below 2 to the 32. -/
theorem numB_some {l : List UInt8} {n : Nat} (h : numB l = some n) : n ≤ 4294967295 ∧ l = decDigits n := by
  unfold numB at h
  split at h
  · cases h
  · split at h
    · split at h
      · cases h
      · rename_i h3
        injection h with h
        subst h
        have : ¬ decDigits (valL l) ≠ l := fun e => h3 (.inr e)
        exact ⟨by omega, (Decidable.not_not.1 this).symm⟩
    · cases h
theorem numB_dec (n : Nat) (hn : n ≤ 4294967295) : numB (decDigits n) = some n := by
  have hl := decDigits_len n hn
  unfold numB
  rw [if_neg (by omega), if_pos (val_dec n).2, (val_dec n).1, if_neg (by simp; omega)]
theorem numB_none_of_parse {l : List UInt8} (h : ∀ u, parseUintB 32 l ≠ .ok u) : numB l = none := by
  cases hx : numB l with
  | none => rfl
  | some n =>
    obtain ⟨h1, rfl⟩ := numB_some hx
    exact absurd (parse_dec n h1) (h n)
theorem numB_of_parse {l : List UInt8} {u : Nat} (h : parseUintB 32 l = .ok u) : numB l = if decDigits u = l then some u else none := by
  have hu := parseUintB_le h
  split
  · rename_i e; rw [← e]; exact numB_dec u (by simpa using hu)
  · rename_i e
    cases hx : numB l with
    | none => rfl
    | some n =>
      obtain ⟨h1, rfl⟩ := numB_some hx
      rw [parse_dec n h1] at h
      injection h with h
      exact absurd (by rw [h]) e
theorem numB_le {l : List UInt8} {n : Nat} (h : numB l = some n) : n < 4294967296 := by have := (numB_some h).1; omega
end Go.Proofs.YtllboenffepcgaaDoor
namespace Go.Proofs.YtllboenffepcgaaDoor
open Go.Lib

def qesc (c : UInt8) : List UInt8 := if c.toNat = 34 ∨ c.toNat = 92 then [92, c] else [c]
/-- The quoted form, if all bytes are text bytes. -/
def quoB (l : List UInt8) : Option (List UInt8) := if l.all (fun b => textB b.toNat) then some (34 :: (l.flatMap qesc ++ [34])) else none
/-- The head of the literal form of n bytes. -/
def litH (n : Nat) : List UInt8 := 123 :: (decDigits n ++ [125, 13, 10])
def litB (l : List UInt8) : List UInt8 := litH l.length ++ l
def bestB (l : List UInt8) : List UInt8 := (quoB l).getD (litB l)

/-- Where the last byte c is, from the end. -/
def lastIx (c : UInt8) : List UInt8 → Option Nat
  | [] => none
  | x :: l => match lastIx c l with
    | some i => some (i + 1)
    | none => if x = c then some 0 else none

/-- The program's way. -/
def annP (l : List UInt8) : Option Nat :=
  if l.getLast? = some 125 then (match lastIx 123 l.dropLast with | none => none | some i => numB (l.dropLast.drop (i + 1))) else none
/-- The reference's way: 'at' is where the digits at the end begin. -/
def digStart : List UInt8 → Nat
  | [] => 0
  | x :: l => if (x :: l).all digitB then 0 else digStart l + 1
def annR (l : List UInt8) : Option Nat :=
  if l.getLast? = some 125 then
    (match numB (l.dropLast.drop (digStart l.dropLast)) with
      | none => none
      | some x => if 0 < digStart l.dropLast ∧ l.dropLast[digStart l.dropLast - 1]? = some 123 then some x else none)
  else none

theorem lastIx_split {c : UInt8} : ∀ {l : List UInt8} {i : Nat}, lastIx c l = some i → ∃ a b, l = a ++ c :: b ∧ a.length = i ∧ c ∉ b
  | [], _, h => by cases h
  | x :: l, i, h => by
    unfold lastIx at h
    cases hl : lastIx c l with
    | some j =>
      rw [hl] at h
      injection h with h
      obtain ⟨a, b, rfl, ha, hb⟩ := lastIx_split hl
      exact ⟨x :: a, b, rfl, by rw [List.length_cons, ha, h], hb⟩
    | none =>
      rw [hl] at h
      by_cases hx : x = c
      · subst hx
        rw [if_pos rfl] at h
        injection h with h
        refine ⟨[], l, rfl, by rw [← h]; rfl, ?_⟩
        exact lastIx_none hl
      · rw [if_neg hx] at h; cases h
where
  lastIx_none {c : UInt8} : ∀ {l : List UInt8}, lastIx c l = none → c ∉ l
    | [], _ => by simp
    | x :: l, h => by
      unfold lastIx at h
      cases hl : lastIx c l with
      | some j => rw [hl] at h; cases h
      | none =>
        rw [hl] at h
        have h1 := lastIx_none hl
        by_cases hx : x = c
        · rw [if_pos hx] at h; cases h
        · intro hm
          rcases List.mem_cons.1 hm with e | e
          · exact hx e.symm
          · exact h1 e
theorem lastIx_none' {c : UInt8} {l : List UInt8} (h : lastIx c l = none) : c ∉ l := lastIx_split.lastIx_none h
theorem lastIx_mk {c : UInt8} {b : List UInt8} (hb : c ∉ b) : ∀ a : List UInt8, lastIx c (a ++ c :: b) = some a.length
  | [] => by
    have hn : lastIx c b = none := by
      cases h : lastIx c b with
      | none => rfl
      | some i => obtain ⟨x, y, rfl, _, _⟩ := lastIx_split h; exact absurd (by simp) hb
    show lastIx c (c :: b) = some 0
    unfold lastIx
    rw [hn, if_pos rfl]
  | x :: a => by
    show lastIx c (x :: (a ++ c :: b)) = _
    unfold lastIx
    rw [lastIx_mk hb a]
    rfl

theorem numB_digits {l : List UInt8} {n : Nat} (h : numB l = some n) : l.all digitB = true ∧ l ≠ [] := by
  obtain ⟨_, rfl⟩ := numB_some h
  exact ⟨(val_dec n).2, decDigits_ne n⟩

theorem digStart_split : ∀ l : List UInt8, ∃ a b, l = a ++ b ∧ a.length = digStart l ∧ b.all digitB = true ∧ (a = [] ∨ ∃ a' x, a = a' ++ [x] ∧ digitB x = false)
  | [] => ⟨[], [], rfl, rfl, rfl, .inl rfl⟩
  | x :: l => by
    unfold digStart
    by_cases h : (x :: l).all digitB = true
    · rw [if_pos h]; exact ⟨[], x :: l, rfl, rfl, h, .inl rfl⟩
    · rw [if_neg h]
      obtain ⟨a, b, e, ha, hb, hs⟩ := digStart_split l
      refine ⟨x :: a, b, by rw [List.cons_append, ← e], by rw [List.length_cons, ha], hb, .inr ?_⟩
      rcases hs with rfl | ⟨a', y, rfl, hy⟩
      · refine ⟨[], x, rfl, ?_⟩
        rw [List.nil_append] at e
        subst e
        rw [List.all_cons, hb, Bool.and_true] at h
        exact Bool.eq_false_iff.2 h
      · exact ⟨x :: a', y, rfl, hy⟩
theorem digStart_mk {b : List UInt8} (hb : b.all digitB = true) : ∀ (a : List UInt8) (x : UInt8), digitB x = false → digStart (a ++ x :: b) = a.length + 1
  | [], x, hx => by
    show digStart (x :: b) = 1
    unfold digStart
    rw [List.all_cons, hx, Bool.false_and, if_neg (by simp)]
    cases b with
    | nil => rfl
    | cons y b => unfold digStart; rw [if_pos hb]
  | z :: a, x, hx => by
    show digStart (z :: (a ++ x :: b)) = _
    unfold digStart
    rw [if_neg (by rw [List.all_cons, List.all_append, List.all_cons, hx]; simp), digStart_mk hb a x hx]
    rfl

theorem digit_ne123 {x : UInt8} (h : digitB x = true) : x ≠ 123 := by
  rintro rfl
  revert h
  decide

theorem ann_eq (l : List UInt8) : annP l = annR l := by
  unfold annP annR
  split
  · generalize l.dropLast = m
    cases hx : numB (m.drop (digStart m)) with
    | some n =>
      obtain ⟨hd, hne⟩ := numB_digits hx
      obtain ⟨a, b, rfl, ha, hb, hs⟩ := digStart_split m
      have hdrop : (a ++ b).drop (digStart (a ++ b)) = b := by rw [← ha, List.drop_left]
      rw [hdrop] at hx
      rcases hs with rfl | ⟨a', y, rfl, hy⟩
      · rw [List.nil_append] at ha ⊢
        have h0 : digStart b = 0 := ha.symm
        simp only [h0]
        rw [if_neg (by simp)]
        cases hl : lastIx 123 b with
        | none => rfl
        | some i =>
          obtain ⟨u, v, rfl, _, _⟩ := lastIx_split hl
          exact absurd rfl (digit_ne123 (List.all_eq_true.1 hb 123 (by simp)))
      · have hds : digStart (a' ++ [y] ++ b) = a'.length + 1 := by rw [List.append_assoc]; exact digStart_mk hb a' y hy
        simp only [hds]
        have hget : (a' ++ [y] ++ b)[a'.length + 1 - 1]? = some y := by simp
        rw [hget]
        by_cases h123 : y = 123
        · subst h123
          rw [if_pos ⟨by omega, rfl⟩, List.append_assoc, List.singleton_append, lastIx_mk (fun hm => digit_ne123 (List.all_eq_true.1 hb 123 hm) rfl) a']
          show numB ((a' ++ 123 :: b).drop (a'.length + 1)) = some n
          rw [← List.drop_drop, List.drop_left]
          exact hx
        · rw [if_neg (by rintro ⟨_, h⟩; injection h with h; exact h123 h)]
          cases hl : lastIx 123 (a' ++ [y] ++ b) with
          | none => rfl
          | some i =>
            obtain ⟨u, v, e, hu, hv⟩ := lastIx_split hl
            show numB ((a' ++ [y] ++ b).drop (i + 1)) = none
            rw [e, ← hu, ← List.drop_drop, List.drop_left]
            show numB v = none
            cases hn : numB v with
            | none => rfl
            | some k =>
              have hvd := (numB_digits hn).1
              have := digStart_mk hvd u 123 (by decide)
              rw [← e, hds] at this
              have hua : u.length = a'.length := by omega
              have h1 : (a' ++ [y] ++ b)[a'.length]? = some y := by simp
              have h2 : (u ++ 123 :: v)[u.length]? = some 123 := by simp
              rw [e, ← hua, h2] at h1
              injection h1 with h1
              exact absurd h1.symm h123
    | none =>
      cases hl : lastIx 123 m with
      | none => rfl
      | some i =>
        obtain ⟨u, v, rfl, hu, hv⟩ := lastIx_split hl
        show numB ((u ++ 123 :: v).drop (i + 1)) = none
        rw [← hu, ← List.drop_drop, List.drop_left]
        show numB v = none
        cases hn : numB v with
        | none => rfl
        | some k =>
          have hvd := (numB_digits hn).1
          rw [digStart_mk hvd u 123 (by decide), ← List.drop_drop, List.drop_left] at hx
          exact absurd (show numB v = none from hx) (by rw [hn]; simp)
  · rfl
end Go.Proofs.YtllboenffepcgaaDoor
