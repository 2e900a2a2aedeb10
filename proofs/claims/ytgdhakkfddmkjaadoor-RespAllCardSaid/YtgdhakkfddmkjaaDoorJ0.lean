/- Plain lemmas on memory that the walks of this claim share: a block that is known whole, and what keeps it. · The walks of package char: the class of atom bytes. · The walks of package char and of its reference: classes of bytes, strings in a class. · The walks of package char: Upper and Same, with their references. · Plain lemmas on slices of bytes in memory: what they read as, and what keeps it. · The walks of strings.Builder's writers at a builder that the call itself has made. · The walks of the reference of package char: classes, strings in a class. · The walks of the reference of package char: Upper, Decimal, Number. -/
import Derived.WalkKit
import Derived.ProofKit
import Derived.OpenShut
import Derived.Below
import Derived.Lib.Hide
import Derived.Outline
import Derived.RegionTactic
import Derived.BigRegion
import Derived.BigQuiet
import Derived.Deep.QuietTactic
import Derived.Deep.Draws
import Derived.Laws.Rows
import Derived.Laws.OwnMore
import Derived.ChangeSame
import Derived.Test.YtgdhakkfddmkjaaDoorProg
import Derived.StillTailTactics
import Derived.Deep.RegionWith
import Derived.Deep.RegionHeld3
import Derived.Lib.ConvBytes
import Derived.Lib.AtoiErrMem
import Derived.Lib.SlBytesRowKit
import Derived.Lib.Walk
import Derived.Lib.Builder
import Derived.Lib.AppendStr
import Derived.Lib.UnsafeStr
import Derived.Laws.Externs
import Derived.Lib.Itoa
import Derived.Lib.ItoaNum
set_option linter.unusedVariables false
set_option linter.unusedSimpArgs false
namespace Go.Proofs.YtgdhakkfddmkjaaDoor
open Go.RowKit

/-- Block g holds just the cells cs of type t, and none is frozen. -/
def Blk (w : World) (g : Nat) (t : TypeId) (cs : Array Value) : Prop := w.heap[g]? = some (.cells cs t (0, 0))

section
variable {w w' : World} {g : Nat} {t : TypeId} {cs : Array Value}
theorem Blk.lt (h : Blk w g t cs) : g < w.heap.size := by
  unfold Blk at h
  exact (Array.getElem?_eq_some_iff.1 h).1
theorem Blk.cell (h : Blk w g t cs) (i : Nat) : w.cell? ⟨g, i, none⟩ = cs[i]? := by
  unfold Blk at h
  simp [World.cell?, h]
theorem Blk.frz (h : Blk w g t cs) (i : Nat) : w.frozen? ⟨g, i, none⟩ = false := by
  unfold Blk at h
  simp [World.frozen?, h]
theorem Blk.made (w : World) (t : TypeId) (cs : Array Value) : Blk (w.alloc (.cells cs t)) w.heap.size t cs := heap_alloc_new w _
theorem Blk.drew (h : Blk w g t cs) : Blk w.drew g t cs := h
theorem Blk.drewN (h : Blk w g t cs) (n : Nat) : Blk (w.drewN n) g t cs := h
theorem Blk.past (h : Blk w g t cs) (o : Obj) : Blk (w.alloc o) g t cs := (Below.heap_alloc w o g h.lt).trans h
theorem Blk.put (h : Blk w g t cs) (i : Nat) (u : Value) : Blk (w.setCell ⟨g, i, none⟩ u) g t (cs.setIfInBounds i u) := by
  unfold Blk at h ⊢
  simp [World.setCell, Array.getElem?_modify, h]
theorem Blk.far (h : Blk w g t cs) {p : Addr} (hp : g ≠ p.block) (u : Value) : Blk (w.setCell p u) g t cs := (Below.heap_setCell w p u g hp).trans h
theorem Blk.below {B : Nat} (h : Blk w g t cs) (hb : Below B w w') (hg : g < B) : Blk w' g t cs := (hb.block g hg).trans h
end

theorem Below.many {B : Nat} {a w : World} (h : Below B a w) (n : Nat) : Below B a (w.drewN n) := ⟨h.os, h.tape, h.output, h.size, h.block⟩

section
open Go.WideShapes Go.ChangeShapes
/-- The row's last step where below the heap's old size nothing has turned. -/
theorem post_of_below {H : Type} {enc : TypeId × Value → H} {P : Program} {f : Func} {s : ChangeSpec} {apart fresh handsOn again : Bool} {W W' : World} {args : Array Value} {v : Value} {ds gs : List (DataW H)} {before pa pv : List MemPlace}
    (hW : DataW.Whole enc P f.params.toList s.vars apart W args.toList ds gs before)
    (hres : ∀ (b : Nat) (sp : Nat → Bool) (hd : Bool), DataW.TrodAll enc P W' b sp hd f.resultTypes.toList (v.resultList f.resultTypes.size) (s.fn H (ds ++ gs)).results [])
    (hargs : ∀ sp : Nat → Bool, (∀ p ∈ before, sp p.block = true) → DataW.TrodAll enc P W' 0 sp true f.params.toList args.toList (s.fn H (ds ++ gs)).args pa)
    (hvars : ∀ sp : Nat → Bool, (∀ p ∈ before, sp p.block = true) → DataW.TrodVars enc P W' sp s.vars (s.fn H (ds ++ gs)).vars pv)
    (hps : before = pa ++ pv) (hb : Below W.heap.size W W')
    (hok : ∀ (j : Nat) (t : TypeId) (r : Value), f.resultTypes[j]? = some t → (v.resultList f.resultTypes.size)[j]? = some r → Value.okWide P W' .any 0 t r) :
    s.post enc P f apart fresh handsOn again W args v W' := by
  have old : ∀ p ∈ before, (fun b => decide (b < W.heap.size)) p.block = true := fun p hp => decide_eq_true (hW.lt p hp)
  have all : ∀ p ∈ before, (fun _ : Nat => true) p.block = true := fun _ _ => rfl
  refine ⟨ds, gs, before, [], pa, pv, hW, hres _ _ _, hargs _ old, hvars _ old, World.keptBut_mono (fun p hp => ⟨hp, .inr (by rw [hps] at hp; exact List.mem_append.1 hp)⟩) (hb.frame (· ∈ before)), fun _ => ⟨hok, ?_⟩⟩
  obtain ⟨_, _, _, _, _, hz, hn⟩ := id hW
  refine ⟨_, _, ([] ++ pa) ++ pv, ⟨[] ++ pa, pv, trodAll_append (hargs _ all) (hres _ _ _), hvars _ all, rfl, fun b off hp => ?_, fun ha => ?_⟩, fun p hp _ => ?_⟩
  · have hin : MemPlace.cell b off ∈ before := by rw [hps]; exact hp
    exact (hb.frozen (hW.lt _ hin)).trans (hz b off hin)
  · have h := hn ha
    rw [hps] at h
    exact h
  · rw [hps]; exact hp
end
end Go.Proofs.YtgdhakkfddmkjaaDoor
namespace Go.Proofs.YtgdhakkfddmkjaaDoor
open Go.RowKit

def word (k : Nat) : List Int :=
  match k with
  | 0 => [0, 0, 0, 0]
  | 1 => [1099511627776, 0, 0, 0]
  | 2 => [3298534883328, 0, 0, 0]
  | 3 => [3298534883328, 576460752303423488, 0, 0]
  | 4 => [3435973836800, 576460752303423488, 0, 0]
  | 5 => [7834020347904, 576460752303423488, 0, 0]
  | 6 => [7851200217088, 576460752303423488, 0, 0]
  | 7 => [7851200217088, 576460752571858944, 0, 0]
  | _ => [7851200217088, 576460753108729856, 0, 0]
def cells64 (l : List Int) : Array Value := (l.map (Value.int .u64)).toArray

set_option maxRecDepth 100000 in
set_option maxHeartbeats 400000 in
theorem add_any (b j : Nat) (c v x : Int) (w : World) (hc : 0 ≤ c) (hc2 : c < 256) (hj : (c / 64).toNat = j) (hv : bits .or .u64 v (IntKind.u64.wrap (2 ^ (c % 64).toNat)) = x)
    (hx : w.cell? ⟨b, j, none⟩ = some (.int .u64 v)) (hf : w.frozen? ⟨b, j, none⟩ = false) :
    Calls Tryd.prog 86 #[.pointer (some ⟨b, 0, none⟩), .int .u8 c] w fun e w' => e = .returned (.tuple #[]) ∧
      w' = (w.setCell ⟨b, j, none⟩ (.int .u64 x)).drew := by
  subst hv
  go_enter Tryd.func86, Tryd.ntmps86
  go_wp2
  go_region
  go_end0
  exact ⟨rfl, rfl⟩

def sp : ByteArray := ⟨#[40, 41, 123, 37, 42, 34, 92, 93]⟩
theorem sp_step (k : Nat) (hk : k < 8) : word (k + 1) = (word k).set ((sp.data.getD k 0).toNat / 64) (bits .or .u64 ((word k).getD ((sp.data.getD k 0).toNat / 64) 0) (IntKind.u64.wrap (2 ^ ((sp.data.getD k 0).toNat % 64)))) := by
  have h : ∀ k : Fin 8, word (k.val + 1) = (word k.val).set ((sp.data.getD k.val 0).toNat / 64) (bits .or .u64 ((word k.val).getD ((sp.data.getD k.val 0).toNat / 64) 0) (IntKind.u64.wrap (2 ^ ((sp.data.getD k.val 0).toNat % 64)))) := by decide +kernel
  exact h ⟨k, hk⟩

def inSet (c : Int) : Bool := bits BinOp.and IntKind.u64 ((word 8).getD (c / 64).toNat 0 / 2 ^ (c % 64).toNat) 1 == 1

set_option maxRecDepth 100000 in
set_option maxHeartbeats 400000 in
theorem has_any (l : List Int) (c v : Int) (b : Bool) (w : World) (hc : 0 ≤ c) (hc2 : c < 256) (hl : l.length = 4) (hv : l[(c / 64).toNat]? = some v) (hb : (bits BinOp.and IntKind.u64 (v / 2 ^ (c % 64).toNat) 1 == 1) = b) :
    Calls Tryd.prog 87 #[.agg (cells64 l), .int .u8 c] w fun e w' => e = .returned (.bool b) ∧ Below w.heap.size w w' := by
  subst hb
  have hv' : (l.map (Value.int .u64))[(c / 64).toNat]? = some (.int .u64 v) := by simp [hv]
  unfold cells64
  clear hv
  match l, hl with
  | [a0, a1, a2, a3], _ =>
  simp only [List.map_cons, List.map_nil] at hv' ⊢
  go_enter Tryd.func87, Tryd.ntmps87
  go_wp2
  all_goals go_ret
  exact ⟨rfl, (Below.refl _ _).alloc (Nat.le_refl _) _⟩


def atomB (c : Int) : Bool := decide (32 < c) && decide (c ≤ 126) && !inSet c

theorem word_len (k : Nat) : (word k).length = 4 := by unfold word; split <;> rfl
theorem sp_lt (k : Nat) (hk : k < 8) : (sp.data.getD k 0).toNat / 64 < 4 := by
  have := (sp.data.getD k 0).toNat_lt; omega
theorem cells64_at (l : List Int) (j : Nat) (hj : j < l.length) : (cells64 l)[j]? = some (.int .u64 (l.getD j 0)) := by
  simp [cells64, hj]
theorem cells64_set (l : List Int) (j : Nat) (v : Int) : (cells64 l).setIfInBounds j (.int .u64 v) = cells64 (l.set j v) := by
  simp [cells64, List.map_set]


theorem sp_get (k : Nat) (hk : k < 8) : (({ data := #[40, 41, 123, 37, 42, 34, 92, 93] } : ByteArray)[k]'hk).toNat = (sp.data.getD k 0).toNat := by
  rw [Array.getD_eq_getD_getElem?, Array.getElem?_eq_getElem (show k < sp.data.size from hk)]; rfl
theorem atomB_in (c : Int) (h1 : 32 < c) (h2 : c ≤ 126) (b : Bool) (h : inSet c = b) : atomB c = !b := by
  simp [atomB, h1, h2, h]
theorem atomB_hi (c : Int) (h2 : ¬ c ≤ 126) : atomB c = false := by simp [atomB, h2]
theorem atomB_lo (c : Int) (h2 : ¬ 32 < c) : atomB c = false := by simp [atomB, h2]

set_option maxRecDepth 100000 in
set_option maxHeartbeats 400000 in
theorem isAtom_any (c : Int) (w : World) (hc : 0 ≤ c) (hc2 : c < 256) :
    Calls Tryd.prog 81 #[.int .u8 c] w fun e w' => e = .returned (.bool (atomB c)) ∧ Below w.heap.size w w' := by
  go_enter Tryd.func81, Tryd.ntmps81
  go_wp2
  go_loopw [5] (fun i wr => ∃ k : Nat, k ≤ 8 ∧ i = .int .i64 k ∧ Blk wr w.heap.size 102 (cells64 (word k)) ∧ Below w.heap.size w wr) (fun i _ => 8 - (intOf i).toNat)
  case atStart => exact ⟨0, by omega, rfl, Blk.made _ _ _, (Below.refl _ _).alloc (Nat.le_refl _) _⟩
  case round =>
    obtain ⟨k, hk, rfl, hb, hw⟩ := hrel
    by_cases hlt : k < 8
    · go_wp2_with fail
      rw [sp_get k hlt]
      have hj := sp_lt k hlt
      have hl : (sp.data.getD k 0).toNat / 64 < (word k).length := by rw [word_len]; exact hj
      have h1 := hb.put ((sp.data.getD k 0).toNat / 64) (.int .u64 (bits .or .u64 ((word k).getD ((sp.data.getD k 0).toNat / 64) 0) (IntKind.u64.wrap (2 ^ ((sp.data.getD k 0).toNat % 64)))))
      rw [cells64_set, ← sp_step k hlt] at h1
      have hcell := hb.cell ((sp.data.getD k 0).toNat / 64)
      rw [cells64_at _ _ hl] at hcell
      have hcu := (sp.data.getD k 0).toNat_lt
      clear hl
      generalize (word k).getD ((sp.data.getD k 0).toNat / 64) 0 = v at h1 hcell
      generalize (sp.data.getD k 0).toNat = u at h1 hcell hcu hj
      refine (add_any _ (u / 64) _ v _ _ (by omega) (by omega) (by omega) rfl hcell (hb.frz _)).mono ?_
      rw [show ((u : Int) % 64).toNat = u % 64 from by omega]
      generalize bits .or .u64 v (IntKind.u64.wrap (2 ^ (u % 64))) = x at h1
      rintro e w1 ⟨rfl, rfl⟩
      go_wp2_with fail
      go_roundw
      case rel => exact ⟨k + 1, by omega, by go_num, h1.drew, ((hw.setCell (Nat.le_refl _) _).drew)⟩
      case measure => simp [intOf]; omega
    · obtain rfl : k = 8 := by omega
      have hc0 : wr.cell? ⟨w.heap.size, 0, none⟩ = some (.int .u64 7851200217088) := by rw [hb.cell]; rfl
      have hc1 : wr.cell? ⟨w.heap.size, 1, none⟩ = some (.int .u64 576460753108729856) := by rw [hb.cell]; rfl
      have hc2' : wr.cell? ⟨w.heap.size, 2, none⟩ = some (.int .u64 0) := by rw [hb.cell]; rfl
      have hc3 : wr.cell? ⟨w.heap.size, 3, none⟩ = some (.int .u64 0) := by rw [hb.cell]; rfl
      by_cases h1 : 32 < c
      · by_cases h2 : c ≤ 126
        · go_wp2_with fail
          have hlt : (c / 64).toNat < (word 8).length := by rw [word_len]; omega
          refine (has_any (word 8) c ((word 8).getD (c / 64).toNat 0) (inSet c) _ hc hc2 (word_len 8) (by simp [hlt]) rfl).mono ?_
          rintro e w1 ⟨rfl, hb1⟩
          have hI := Lib.hid (atomB_in c h1 h2 _ rfl)
          go_wp2_with fail
          go_ret
          exact ⟨by rw [hI.out]; rfl, hw.trans (hb1.mono hw.size)⟩
        · have hI := Lib.hid (atomB_hi c h2)
          go_wp2_with fail
          go_ret
          exact ⟨by rw [hI.out]; rfl, hw⟩
      · have hI := Lib.hid (atomB_lo c h1)
        go_wp2_with fail
        go_ret
        exact ⟨by rw [hI.out]; rfl, hw⟩

def tagB (c : Int) : Bool := (c == 93) || (!(c == 43) && atomB c)
theorem tag_any (c : Int) (w : World) (hc : 0 ≤ c) (hc2 : c < 256) :
    Calls Tryd.prog 72 #[.int .u8 c] w fun e w' => e = .returned (.bool (tagB c)) ∧ Below w.heap.size w w' := by
  by_cases h1 : c = 93
  · subst h1
    go_enter Tryd.func72, Tryd.ntmps72
    go_wp2_with fail
    go_ret
    exact ⟨rfl, Below.refl _ _⟩
  · by_cases h2 : c = 43
    · subst h2
      go_enter Tryd.func72, Tryd.ntmps72
      go_wp2_with fail
      go_ret
      exact ⟨rfl, Below.refl _ _⟩
    · have e1 : (c == 93) = false := by simpa using h1
      have e2 : (c == 43) = false := by simpa using h2
      have e3 : (c != 43) = true := by simpa using h2
      have hI := Lib.hid (show tagB c = atomB c by simp [tagB, e1, e2])
      go_enter Tryd.func72, Tryd.ntmps72
      go_wp2_with (go_at_call 81; refine (isAtom_any _ _ hc hc2).mono ?_; rintro e w' ⟨rfl, hb⟩)
      go_ret
      exact ⟨by rw [hI.out]; rfl, hb⟩
end Go.Proofs.YtgdhakkfddmkjaaDoor
namespace Go.Proofs.YtgdhakkfddmkjaaDoor
open Go.RowKit

def textB (c : Int) : Bool := c != 0 && (decide (c < 128) && (c != 13 && c != 10))

set_option maxRecDepth 100000 in
set_option maxHeartbeats 400000 in
theorem text_any (c : Int) (w : World) (hc : 0 ≤ c) (hc2 : c < 256) :
    Calls Tryd.prog 68 #[.int .u8 c] w fun e w' => e = .returned (.bool (textB c)) ∧ w' = w := by
  by_cases h0 : c = 0
  · subst h0
    go_enter Tryd.func68, Tryd.ntmps68
    go_wp2
    go_ret
    exact ⟨rfl, rfl⟩
  have e0 : (c != 0) = true := by simpa using h0
  by_cases h1 : c < 128
  · have e1 : decide (c < 128) = true := by simpa using h1
    by_cases h2 : c = 13
    · subst h2
      go_enter Tryd.func68, Tryd.ntmps68
      go_wp2
      go_ret
      exact ⟨rfl, rfl⟩
    have e2 : (c != 13) = true := by simpa using h2
    have hI : Hid (textB c = (c != 10)) := Lib.hid (by unfold textB; rw [e0, e1, e2]; simp)
    go_enter Tryd.func68, Tryd.ntmps68
    go_wp2
    go_ret
    exact ⟨by rw [hI.out]; rfl, rfl⟩
  · have e1 : decide (c < 128) = false := by simpa using h1
    have hI : Hid (textB c = false) := Lib.hid (by unfold textB; rw [e1]; simp)
    go_enter Tryd.func68, Tryd.ntmps68
    go_wp2
    go_ret
    exact ⟨by rw [hI.out]; rfl, rfl⟩

theorem andNot32 (c : Int) (hc : 97 ≤ c) (hc2 : c ≤ 122) : bits BinOp.andNot IntKind.u8 c 32 = c - 32 := by
  have h : ∀ k : Fin 26, bits BinOp.andNot IntKind.u8 ((k.val : Int) + 97) 32 = (k.val : Int) + 97 - 32 := by decide +kernel
  have := h ⟨(c - 97).toNat, by omega⟩
  rwa [show (((⟨(c - 97).toNat, by omega⟩ : Fin 26).val : Int) + 97) = c from by simp; omega] at this
theorem take_all_no {α : Type} {q : α → Bool} {l : List α} {k : Nat} (hk : k < l.length) (h : q l[k] = false) : l.all q = false := by
  rw [List.all_eq_false]; exact ⟨_, List.getElem_mem hk, by simp [h]⟩
theorem take_all_yes {α : Type} {q : α → Bool} {l : List α} {k : Nat} (hk : k < l.length) (ht : (l.take k).all q = true) (h : q l[k] = true) : (l.take (k + 1)).all q = true := by
  rw [List.take_succ_eq_append_getElem hk, List.all_append, ht]; simp [h]
theorem byte_at (s : ByteArray) (k : Nat) (h : k < s.size) : s.data.toList[k]'(by simpa using h) = s[k] := rfl

set_option maxRecDepth 100000 in
set_option maxHeartbeats 400000 in
theorem class_all (f : FuncId) (p : Int → Bool) (s : ByteArray) (w : World) (hs : s.size ≤ maxLen) (hf : ∀ args w, (callFunc f args).run Tryd.prog w = .ok (.enter f args) w)
    (H : ∀ (c : Int) (W : World), 0 ≤ c → c < 256 → Calls Tryd.prog f #[.int .u8 c] W fun e w' => e = .returned (.bool (p c)) ∧ Below W.heap.size W w') :
    Calls Tryd.prog 78 #[.agg #[.func (.func f) #[] #[]], .string s] w fun e w' => e = .returned (.bool (s.data.toList.all fun b => p b.toNat)) ∧ Below w.heap.size w w' := by
  unfold maxLen at hs
  have H' := Lib.hid H
  clear H
  go_enter Tryd.func78, Tryd.ntmps78
  go_wp2
  go_loopw [8] (fun i wr => ∃ k : Nat, k ≤ s.size ∧ i = .int .i64 k ∧ Blk wr w.heap.size 91 #[.func (.func f) #[] #[]] ∧ Below w.heap.size w wr ∧ (s.data.toList.take k).all (fun b => p b.toNat) = true) (fun i _ => s.size - (intOf i).toNat)
  case atStart => exact ⟨0, by omega, rfl, Blk.made _ _ _, (Below.refl _ _).alloc (Nat.le_refl _) _, rfl⟩
  case round =>
    obtain ⟨k, hk, rfl, hb, hw, ha⟩ := hrel
    have A := Lib.hid ha
    clear ha
    have hc0 : wr.cell? ⟨w.heap.size, 0, none⟩ = some (.func (.func f) #[] #[]) := by rw [hb.cell]; rfl
    by_cases hlt : k < s.size
    · have hi0 : (0 : Int) ≤ k := by omega
      have hi1 : (k : Int) < s.size := by omega
      have hl : k < s.data.toList.length := by simpa using hlt
      have hu := s[k].toNat_lt
      have hyes : Hid (p (s[k].toNat : Int) = true → (s.data.toList.take (k + 1)).all (fun b => p b.toNat) = true) := Lib.hid fun hp => take_all_yes hl A.out hp
      have hno : Hid (p (s[k].toNat : Int) = false → (s.data.toList.all fun b => p b.toNat) = false) := Lib.hid fun hp => take_all_no (q := fun b : UInt8 => p b.toNat) hl hp
      go_wp2_with fail
      go_still_tail 5, (by kernel_rfl)
      change wpList _ _ _ _ _ wr.drew
      have hb2 := hb.drew
      have hw2 := hw.drew
      generalize wr.drew = w2 at hb2 hw2 ⊢
      go_wp2_with fail
      refine (H'.out _ _ (by omega) (by omega)).mono ?_
      rintro e w3 ⟨rfl, hb3⟩
      have hb4 := hb2.below hb3 hb2.lt
      have hw4 := hw2.trans (hb3.mono hw2.size)
      cases hp : p (s[k].toNat : Int)
      · have R := Lib.hid (hno.out hp)
        go_wp2_with fail
        go_ret
        exact ⟨by rw [R.out]; rfl, hw4⟩
      · have R := Lib.hid (hyes.out hp)
        go_wp2_with fail
        go_roundw
        case rel => exact ⟨k + 1, by omega, by go_num, hb4, hw4, R.out⟩
        case measure => simp [intOf]; omega
    · have R : Hid ((s.data.toList.all fun b => p b.toNat) = true) := Lib.hid (by have := A.out; rwa [List.take_of_length_le (by simp; omega)] at this)
      go_wp2_with fail
      go_ret
      exact ⟨by rw [R.out]; rfl, hw⟩

theorem all_empty (f : FuncId) (w : World) :
    Calls Tryd.prog 67 #[.string ⟨#[]⟩, .func (.func f) #[] #[]] w fun e w' => e = .returned (.bool false) ∧ Below w.heap.size w w' := by
  go_enter Tryd.func67, Tryd.ntmps67
  go_wp2_with fail
  go_ret
  exact ⟨rfl, Below.refl _ _⟩


theorem str_cases (s : ByteArray) : s = ⟨#[]⟩ ∨ (¬ s.toList = [] ∧ s.toList.isEmpty = false ∧ s.data.toList.isEmpty = false) := by
  rcases s with ⟨⟨l⟩⟩
  cases l with
  | nil => exact .inl rfl
  | cons a l => right; rw [ByteArray.toList_eq]; simp

def allS (p : Int → Bool) (s : ByteArray) : Bool := !s.data.toList.isEmpty && s.data.toList.all fun b => p b.toNat

theorem all_any (f : FuncId) (p : Int → Bool) (s : ByteArray) (w : World) (hs : s.size ≤ maxLen) (hf : ∀ args w, (callFunc f args).run Tryd.prog w = .ok (.enter f args) w)
    (H : ∀ (c : Int) (W : World), 0 ≤ c → c < 256 → Calls Tryd.prog f #[.int .u8 c] W fun e w' => e = .returned (.bool (p c)) ∧ Below W.heap.size W w') :
    Calls Tryd.prog 67 #[.string s, .func (.func f) #[] #[]] w fun e w' => e = .returned (.bool (allS p s)) ∧ Below w.heap.size w w' := by
  rcases str_cases s with rfl | ⟨h1, h2, h3⟩
  · exact all_empty f w
  have h33 := Lib.hid (class_all f p s · hs hf H)
  have R : Hid (allS p s = s.data.toList.all fun b => p b.toNat) := Lib.hid (by unfold allS; rw [h3]; rfl)
  clear H h3
  generalize s.data.toList.all (fun b => p b.toNat) = b at h33 R
  go_enter Tryd.func67, Tryd.ntmps67
  go_wp2_with (go_at_call 78; refine (h33.out _).mono ?_; rintro e w1 ⟨rfl, hb⟩)
  go_ret
  exact ⟨by rw [R.out]; rfl, hb⟩


end Go.Proofs.YtgdhakkfddmkjaaDoor
namespace Go.Proofs.YtgdhakkfddmkjaaDoor
open Go.RowKit

/-- From cell 0 on, block B holds the bytes l, and they may be written. -/
def BytesAt (w : World) (B : Nat) (l : List UInt8) : Prop :=
  ∀ j (h : j < l.length), w.cell? ⟨B, j, none⟩ = some (.int .u8 (l[j].toNat : Int)) ∧ w.frozen? ⟨B, j, none⟩ = false
section
variable {w w' : World} {B : Nat} {l : List UInt8}
theorem BytesAt.drew (h : BytesAt w B l) : BytesAt w.drew B l := h
theorem BytesAt.past (h : BytesAt w B l) (hB : B < w.heap.size) (o : Obj) : BytesAt (w.alloc o) B l := fun j hj => by
  have hb := (Below.refl w.heap.size w).alloc (Nat.le_refl _) o
  exact ⟨(hb.cell (p := ⟨B, j, none⟩) hB).trans (h j hj).1, (hb.frozen (p := ⟨B, j, none⟩) hB).trans (h j hj).2⟩
theorem BytesAt.below {C : Nat} (h : BytesAt w B l) (hb : Below C w w') (hB : B < C) : BytesAt w' B l := fun j hj =>
  ⟨(hb.cell (p := ⟨B, j, none⟩) hB).trans (h j hj).1, (hb.frozen (p := ⟨B, j, none⟩) hB).trans (h j hj).2⟩
theorem BytesAt.put (h : BytesAt w B l) (k : Nat) (hk : k < l.length) (u : UInt8) : BytesAt (w.setCell ⟨B, k, none⟩ (.int .u8 (u.toNat : Int))) B (l.set k u) := fun j hj => by
  have hj' : j < l.length := by simpa using hj
  refine ⟨?_, ?_⟩
  · by_cases e : k = j
    · subst e
      rw [World.cell?_setCell_same _ _ _ (h k hk).1]; simp
    · rw [World.cell?_setCell_other _ _ _ _ (by simp [e]), (h j hj').1]
      simp [List.getElem_set, e]
  · rw [World.frozen?_setCell]; exact (h j hj').2
end

def upB (b : UInt8) : UInt8 := if 97 ≤ b.toNat ∧ b.toNat ≤ 122 then b - 32 else b

theorem up_step (l : List UInt8) (k : Nat) (hk : k < l.length) : ((l.take k).map upB ++ l.drop k).set k (upB l[k]) = (l.take (k + 1)).map upB ++ l.drop (k + 1) := by
  rw [List.set_append_right _ _ (by simp; omega)]
  have e : k - ((l.take k).map upB).length = 0 := by simp; omega
  rw [e, List.drop_eq_getElem_cons hk, List.set_cons_zero, List.take_succ_eq_append_getElem hk, List.map_append]
  simp only [List.map_cons, List.map_nil, List.append_assoc, List.cons_append, List.nil_append]

theorem bytesAt_conv (w : World) (e : TypeId) (s : ByteArray) : BytesAt (Lib.bytesWorld w e s) w.heap.size s.data.toList := fun j hj => by
  have hj' : j < s.size := by simpa using hj
  refine ⟨?_, ?_⟩
  · rw [Lib.bytesWorld_cell w e s j hj', List.getD_eq_getElem?_getD, List.getElem?_eq_getElem hj]; rfl
  · have := Lib.bytesWorld_at_new w e s
    simp [World.frozen?, this, Lib.bytesCells]
    omega

def upS (s : ByteArray) : ByteArray := ⟨(s.data.toList.map upB).toArray⟩
theorem upS_size (s : ByteArray) : (upS s).size = s.size := by
  show (s.data.toList.map upB).toArray.size = _
  rw [List.size_toArray, List.length_map, Array.length_toList]; rfl
/-- Go's == on strings, as the walk spells it. -/
def eqS (x y : ByteArray) : Bool := x.toList == y.toList
theorem eqS_iff (x y : ByteArray) : eqS x y = true ↔ x = y := by
  unfold eqS
  rw [beq_iff_eq, ByteArray.toList_eq, ByteArray.toList_eq]
  exact ⟨fun h => by cases x; cases y; congr; exact Array.toList_inj.1 h, fun h => by rw [h]⟩

end Go.Proofs.YtgdhakkfddmkjaaDoor
namespace Go.Proofs.YtgdhakkfddmkjaaDoor
open Go.RowKit

/-- The slice of l.length bytes at p reads as l, below block B. -/
def Bys (w : World) (B : Nat) (p : Option Addr) (l : List UInt8) : Prop :=
  0 < l.length → ∃ b o, p = some ⟨b, o, none⟩ ∧ b < B ∧ ∀ i (h : i < l.length), w.cell? ⟨b, o + i, none⟩ = some (.int .u8 (l[i].toNat : Int))

section
variable {w w' : World} {B B' : Nat} {p : Option Addr} {l : List UInt8}
theorem Bys.nil (w : World) (B : Nat) (p : Option Addr) : Bys w B p [] := fun h => absurd h (by simp)
theorem Bys.keep (h : Bys w B p l) (hk : ∀ q : Addr, q.block < B → w'.cell? q = w.cell? q) : Bys w' B p l := fun h0 => by
  obtain ⟨b, o, e, hb, hc⟩ := h h0
  exact ⟨b, o, e, hb, fun i hi => (hk _ hb).trans (hc i hi)⟩
theorem Bys.more (h : Bys w B p l) (hB : B ≤ B') : Bys w B' p l := fun h0 => by
  obtain ⟨b, o, e, hb, hc⟩ := h h0
  exact ⟨b, o, e, Nat.lt_of_lt_of_le hb hB, hc⟩
theorem Bys.below (h : Bys w B p l) (hb : Below B w w') : Bys w' B p l := h.keep fun _ hq => hb.cell hq
theorem Bys.belowle {C : Nat} (h : Bys w B p l) (hb : Below C w w') (hC : B ≤ C) : Bys w' B p l := h.keep fun _ hq => hb.cell (Nat.lt_of_lt_of_le hq hC)
theorem Bys.drew (h : Bys w B p l) : Bys w.drew B p l := h
theorem Bys.drewN (h : Bys w B p l) (k : Nat) : Bys (w.drewN k) B p l := h
theorem Bys.past (h : Bys w B p l) (hB : B ≤ w.heap.size) (o : Obj) : Bys (w.alloc o) B p l := h.keep fun q hq => World.cell?_alloc_lt w o q (by omega)
theorem Bys.at (h : Bys w B p l) (h0 : 0 < l.length) : ∃ b o, p = some ⟨b, o, none⟩ ∧ b < B ∧ ∀ i (hi : i < l.length), w.cell? ⟨b, o + i, none⟩ = some (.int .u8 (l[i].toNat : Int)) := h h0
/-- The tail behind k places. -/
theorem Bys.from (h : Bys w B p l) (k : Nat) : Bys w B (p.map (·.add k)) (l.drop k) := fun h0 => by
  obtain ⟨b, o, rfl, hb, hc⟩ := h (by rw [List.length_drop] at h0; omega)
  refine ⟨b, o + k, ?_, hb, fun i hi => ?_⟩
  · rw [Option.map_some, Go.WideShapes.add_plain]
  · rw [List.length_drop] at hi
    rw [Nat.add_assoc, hc (k + i) (by omega), List.getElem_drop]
/-- The first k places. -/
theorem Bys.upto (h : Bys w B p l) (k : Nat) : Bys w B p (l.take k) := fun h0 => by
  rw [List.length_take] at h0
  obtain ⟨b, o, e, hb, hc⟩ := h (by omega)
  refine ⟨b, o, e, hb, fun i hi => ?_⟩
  rw [List.length_take] at hi
  rw [hc i (by omega), List.getElem_take]
/-- The walk's own spelling of a cut that leaves nothing at the capacity's end. -/
theorem Bys.from_if (h : Bys w B p l) (k cap : Nat) (hl : l.length ≤ cap) : Bys w B (if cap = k then p else p.map (·.add k)) (l.drop k) := by
  by_cases e : cap = k
  · have : l.drop k = [] := List.drop_eq_nil_of_le (by omega)
    rw [this]; exact Bys.nil _ _ _
  · rw [if_neg e]; exact h.from k
/-- As the shelf's contracts say it. -/
def ints (l : List UInt8) : List Int := l.map fun b => (b.toNat : Int)
theorem ints_length (l : List UInt8) : (ints l).length = l.length := by simp [ints]
theorem Bys.ints_in (h : Bys w B p l) : Lib.BytesIn w p l.length (ints l) := fun h0 => by
  obtain ⟨b, o, e, hb, hc⟩ := h h0
  exact ⟨b, o, e, fun i hi => by rw [hc i hi]; simp [ints, hi]⟩
end

/-- 'string(b)' -/
theorem conv_bys {P : Program} {w : World} {B : Nat} {p : Option Addr} {l : List UInt8} (h : Bys w B p l) (c : Nat) {src dst e : TypeId} (hs : P.underlying src = some (.slice e)) (he : P.underlying e = some (.int .u8)) (hd : P.underlying dst = some .string) :
    (convert src dst (.slice p l.length c)).run P w = .ok (.string ⟨l.toArray⟩) w := by
  rcases Nat.eq_zero_or_pos l.length with h0 | h0
  · have hl : l = [] := List.eq_nil_of_length_eq_zero h0
    subst hl
    rcases p with _ | a
    · exact run_convert_bytes_nil (P := P) (w := w) src e hs he _ _ dst hd
    · exact run_convert_bytes_back (P := P) w src dst e a c [] hs he hd (fun j hj => absurd hj (by simp))
  · obtain ⟨b, o, rfl, hb, hc⟩ := h h0
    exact run_convert_bytes_back (P := P) w src dst e ⟨b, o, none⟩ c l hs he hd (fun j hj => by rw [Go.WideShapes.add_plain]; exact hc j hj)
end Go.Proofs.YtgdhakkfddmkjaaDoor
namespace Go.Proofs.YtgdhakkfddmkjaaDoor
open Go.RowKit

/-- A builder's block b, one of the call's own from B on, that holds the bytes l. -/
def Bld (B b : Nat) (l : List UInt8) (w : World) : Prop := Lib.IsBuilder 83 5 B b (Lib.byteCells l) w

theorem bldSize : (Tryd.prog.info? 83).map (·.size) = some 2 := by kernel_rfl
theorem bldLies : liesAt Tryd.prog Tryd.prog.depth 83 (2 / Tryd.prog.cellsOf 83) 0 83 1 = true := by kernel_rfl
theorem infoU8 : (Tryd.prog.info? 5).map (fun i => (i.zero, i.size, i.bytes)) = some (some (.int .u8 0), 1, 1) := by kernel_rfl

set_option maxHeartbeats 1000000 in
set_option maxRecDepth 100000 in
theorem bld_check_used (b : Nat) (w : World) (h0 : w.cell? ⟨b, 0, none⟩ = some (.pointer (some ⟨b, 0, none⟩))) :
    Calls Tryd.prog 83 #[.pointer (some ⟨b, 0, none⟩)] w fun e w' => e = .returned (.tuple #[]) ∧ w' = w := by
  obtain ⟨j, hj, _⟩ := Option.map_eq_some_iff.1 bldSize
  go_enter Tryd.func83, Tryd.ntmps83
  go_wp2
  rw [Lib.run_neq_ptr_same w _ Tryd.underlying81 hj]
  go_wp2
  go_end0
  exact ⟨rfl, rfl⟩

set_option maxHeartbeats 1000000 in
set_option maxRecDepth 100000 in
theorem bld_check_new (b : Nat) (w : World) (h0 : w.cell? ⟨b, 0, none⟩ = some (.pointer none)) (hsh : w.shape? b = some (83, 2)) (hfz : w.frozen? ⟨b, 0, none⟩ = false) :
    Calls Tryd.prog 83 #[.pointer (some ⟨b, 0, none⟩)] w fun e w' => e = .returned (.tuple #[]) ∧ w' = w.setCell ⟨b, 0, none⟩ (.pointer (some ⟨b, 0, none⟩)) := by
  obtain ⟨j, hj, hjs⟩ := Option.map_eq_some_iff.1 bldSize
  go_enter Tryd.func83, Tryd.ntmps83
  go_wp2
  rw [Lib.run_to_unsafe w ⟨b, 0, none⟩ Tryd.underlying81 Tryd.underlying109 hj (by rw [hjs]; decide) hsh (Nat.zero_lt_succ 1)]
  simp only [Result.andThen]
  rw [Oper.upon_value]
  go_wp2
  rw [run_callFunc_extern Tryd.func92 (by kernel_rfl) (by kernel_rfl) (by kernel_rfl) (e := Extern.AbiNoEscape.same) (by kernel_rfl)]
  rw [Lib.run_noEscape]
  simp only [Result.andThen]
  rw [Oper.upon_value]
  go_wp2
  rw [Lib.run_from_unsafe w ⟨b, 0, none⟩ Tryd.underlying109 Tryd.underlying81 hj hsh bldLies]
  simp only [Result.andThen]
  rw [Oper.upon_value]
  go_wp2
  go_end0
  exact ⟨rfl, rfl⟩

theorem bld_check (B b : Nat) (l : List UInt8) (w : World) (h : Bld B b l w) :
    Calls Tryd.prog 83 #[.pointer (some ⟨b, 0, none⟩)] w fun e w' => e = .returned (.tuple #[]) ∧ (Lib.BuilderAt 83 5 B b (.pointer (some ⟨b, 0, none⟩)) (Lib.byteCells l) w' ∧ Below B w w') := by
  rcases h with h | h
  · refine (bld_check_new b w h.cell0 h.shape h.frozen0).mono ?_
    rintro e w' ⟨rfl, rfl⟩
    exact ⟨rfl, h.used _, (Below.refl B w).setCell (p := ⟨b, 0, none⟩) h.1 _⟩
  · refine (bld_check_used b w h.cell0).mono ?_
    rintro e w' ⟨rfl, rfl⟩
    exact ⟨rfl, h, Below.refl B _⟩

theorem byteCells_snoc (l : List UInt8) (c : UInt8) : Lib.byteCells (l ++ [c]) = Lib.byteCells l ++ [.int .u8 (c.toNat : Int)] := by simp [Lib.byteCells]

end Go.Proofs.YtgdhakkfddmkjaaDoor
namespace Go.Proofs.YtgdhakkfddmkjaaDoor
open Go.RowKit

theorem atomB_tab : ∀ c : Fin 256, atomB c.val = (!(([40, 41, 123, 37, 42, 34, 92, 93] : List Int).contains c.val) && (decide (32 < (c.val : Int)) && decide ((c.val : Int) < 127))) := by decide +kernel
theorem atomB_ref (c : Int) (hc : 0 ≤ c) (hc2 : c < 256) : atomB c = (!(([40, 41, 123, 37, 42, 34, 92, 93] : List Int).contains c) && (decide (32 < c) && decide (c < 127))) := by
  have := atomB_tab ⟨c.toNat, by omega⟩
  simp only [Int.toNat_of_nonneg hc] at this
  exact this

theorem rAtom_sp (c : Int) (w : World) (h : c ∈ ([40, 41, 123, 37, 42, 34, 92, 93] : List Int)) :
    Calls Tryd.prog 73 #[.int .u8 c] w fun e w' => e = .returned (.bool false) ∧ w' = w := by
  simp only [List.mem_cons, List.not_mem_nil, or_false] at h
  rcases h with rfl | rfl | rfl | rfl | rfl | rfl | rfl | rfl
  all_goals
    go_enter Tryd.func73, Tryd.ntmps73
    go_wp2
    go_ret
    exact ⟨rfl, rfl⟩
set_option maxRecDepth 100000 in
set_option maxHeartbeats 400000 in
theorem rAtom_no (c : Int) (w : World) (h : ¬ c ∈ ([40, 41, 123, 37, 42, 34, 92, 93] : List Int)) (b : Bool) (hb : (decide (32 < c) && decide (c < 127)) = b) :
    Calls Tryd.prog 73 #[.int .u8 c] w fun e w' => e = .returned (.bool b) ∧ w' = w := by
  simp only [List.mem_cons, List.not_mem_nil, or_false, not_or] at h
  obtain ⟨h1, h2, h3, h4, h5, h6, h7, h8⟩ := h
  have e1 : (c == 40) = false := by simpa using h1
  have e2 : (c == 41) = false := by simpa using h2
  have e3 : (c == 123) = false := by simpa using h3
  have e4 : (c == 37) = false := by simpa using h4
  have e5 : (c == 42) = false := by simpa using h5
  have e6 : (c == 34) = false := by simpa using h6
  have e7 : (c == 92) = false := by simpa using h7
  have e8 : (c == 93) = false := by simpa using h8
  clear h1 h2 h3 h4 h5 h6 h7 h8
  have HB := Lib.hid hb
  clear hb
  by_cases h : 32 < c
  · have R : Hid (decide (c < 127) = b) := Lib.hid (by have := HB.out; rwa [decide_eq_true h, Bool.true_and] at this)
    clear HB
    go_enter Tryd.func73, Tryd.ntmps73
    go_wp2
    go_ret
    exact ⟨by rw [← R.out]; rfl, rfl⟩
  · have R : Hid (false = b) := Lib.hid (by have := HB.out; rwa [decide_eq_false h, Bool.false_and] at this)
    clear HB
    go_enter Tryd.func73, Tryd.ntmps73
    go_wp2
    go_ret
    exact ⟨by rw [← R.out]; rfl, rfl⟩
theorem rAtom_any (c : Int) (w : World) (hc : 0 ≤ c) (hc2 : c < 256) :
    Calls Tryd.prog 73 #[.int .u8 c] w fun e w' => e = .returned (.bool (atomB c)) ∧ w' = w := by
  rw [atomB_ref c hc hc2]
  by_cases h : c ∈ ([40, 41, 123, 37, 42, 34, 92, 93] : List Int)
  · have e : (([40, 41, 123, 37, 42, 34, 92, 93] : List Int).contains c) = true := List.contains_iff_mem.2 h
    rw [e]
    exact rAtom_sp c w h
  · have e : (([40, 41, 123, 37, 42, 34, 92, 93] : List Int).contains c) = false := by
      rw [Bool.eq_false_iff]; exact fun h' => h (List.contains_iff_mem.1 h')
    rw [e]
    exact rAtom_no c w h _ rfl

theorem rTag_any (c : Int) (w : World) (hc : 0 ≤ c) (hc2 : c < 256) :
    Calls Tryd.prog 44 #[.int .u8 c] w fun e w' => e = .returned (.bool (tagB c)) ∧ w' = w := by
  have h13 := Lib.hid (rAtom_any c w hc hc2)
  by_cases h1 : c = 93
  · subst h1
    go_enter Tryd.func44, Tryd.ntmps44
    go_wp2_with (go_at_call 73; refine h13.out.mono ?_; rintro e w' ⟨rfl, rfl⟩)
    all_goals go_ret
    all_goals exact ⟨rfl, rfl⟩
  · have e1 : (c == 93) = false := by simpa using h1
    have R : Hid (tagB c = (!(c == 43) && atomB c)) := Lib.hid (by unfold tagB; rw [e1]; rfl)
    generalize atomB c = b at h13 R
    by_cases h2 : c = 43
    · subst h2
      go_enter Tryd.func44, Tryd.ntmps44
      go_wp2_with (go_at_call 73; refine h13.out.mono ?_; rintro e w' ⟨rfl, rfl⟩)
      all_goals go_ret
      all_goals exact ⟨by rw [R.out]; rfl, rfl⟩
    · have e2 : (c == 43) = false := by simpa using h2
      have e3 : (c != 43) = true := by simpa using h2
      have R2 : Hid (tagB c = b) := Lib.hid (by rw [R.out, e2]; rfl)
      cases b
      all_goals
        go_enter Tryd.func44, Tryd.ntmps44
        go_wp2_with (go_at_call 73; refine h13.out.mono ?_; rintro e w' ⟨rfl, rfl⟩)
        go_ret
        exact ⟨by rw [R2.out]; rfl, rfl⟩

set_option maxRecDepth 100000 in
set_option maxHeartbeats 400000 in
theorem rText_any (c : Int) (w : World) (hc : 0 ≤ c) (hc2 : c < 256) :
    Calls Tryd.prog 43 #[.int .u8 c] w fun e w' => e = .returned (.bool (textB c)) ∧ w' = w := by
  by_cases h0 : 0 < c
  · have e0 : (c != 0) = true := by rw [bne_iff_ne]; omega
    by_cases h1 : c < 128
    · by_cases h2 : c = 10
      · subst h2
        go_enter Tryd.func43, Tryd.ntmps43
        go_wp2
        go_ret
        exact ⟨rfl, rfl⟩
      have e2 : (c != 10) = true := by rw [bne_iff_ne]; omega
      have e1 : decide (c < 128) = true := by simpa using h1
      have R : Hid (textB c = (c != 13)) := Lib.hid (by unfold textB; rw [e0, e1, e2]; simp)
      clear e1
      go_enter Tryd.func43, Tryd.ntmps43
      go_wp2
      go_ret
      exact ⟨by rw [R.out]; rfl, rfl⟩
    · have e1 : decide (c < 128) = false := by simpa using h1
      have R : Hid (textB c = false) := Lib.hid (by unfold textB; rw [e1]; simp)
      clear e1
      go_enter Tryd.func43, Tryd.ntmps43
      go_wp2
      go_ret
      exact ⟨by rw [R.out]; rfl, rfl⟩
  · obtain rfl : c = 0 := by omega
    go_enter Tryd.func43, Tryd.ntmps43
    go_wp2
    go_ret
    exact ⟨rfl, rfl⟩

theorem isTagS_none (w : World) :
    Calls Tryd.prog 28 #[.string ⟨#[]⟩] w fun e w' => e = .returned (.bool false) ∧ w' = w := by
  go_enter Tryd.func28, Tryd.ntmps28
  go_wp2
  go_loop [3] (fun i => i = .int .i64 0) (fun _ => 0)
  case atStart => rfl
  case round =>
    subst hrel
    go_wp2
    go_ret
    exact ⟨rfl, rfl⟩
set_option maxRecDepth 100000 in
set_option maxHeartbeats 400000 in
theorem isTagS_any (s : ByteArray) (w : World) (hs : s.size ≤ maxLen) :
    Calls Tryd.prog 28 #[.string s] w fun e w' => e = .returned (.bool (allS tagB s)) ∧ w' = w := by
  unfold maxLen at hs
  rcases str_cases s with rfl | ⟨hn1, hn2, hn3⟩
  · exact isTagS_none w
  have R : Hid (allS tagB s = s.data.toList.all fun b => tagB b.toNat) := Lib.hid (by unfold allS; rw [hn3]; rfl)
  clear hn3
  go_enter Tryd.func28, Tryd.ntmps28
  go_wp2
  go_loop [3] (fun i => ∃ k : Nat, k ≤ s.size ∧ i = .int .i64 k ∧ (s.data.toList.take k).all (fun b => tagB b.toNat) = true) (fun i => s.size - (intOf i).toNat)
  case atStart => exact ⟨0, by omega, rfl, rfl⟩
  case round =>
    obtain ⟨k, hk, rfl, ha⟩ := hrel
    have A := Lib.hid ha
    clear ha
    by_cases hlt : k < s.size
    · have hi0 : (0 : Int) ≤ k := by omega
      have hi1 : (k : Int) < s.size := by omega
      have hl : k < s.data.toList.length := by simpa using hlt
      have hu := s[k].toNat_lt
      have hyes : Hid (tagB (s[k].toNat : Int) = true → (s.data.toList.take (k + 1)).all (fun b => tagB b.toNat) = true) := Lib.hid fun hp => take_all_yes hl A.out hp
      have hno : Hid (tagB (s[k].toNat : Int) = false → (s.data.toList.all fun b => tagB b.toNat) = false) := Lib.hid fun hp => take_all_no (q := fun b : UInt8 => tagB b.toNat) hl hp
      go_wp2_with fail
      refine (rTag_any _ _ (by omega) (by omega)).mono ?_
      rintro e w' ⟨rfl, rfl⟩
      cases hp : tagB (s[k].toNat : Int)
      · have R2 := Lib.hid (hno.out hp)
        go_wp2_with fail
        go_ret
        exact ⟨by rw [R.out, R2.out]; rfl, rfl⟩
      · have R2 := Lib.hid (hyes.out hp)
        go_wp2_with fail
        go_round
        case rel => exact ⟨k + 1, by omega, by go_num, R2.out⟩
        case measure => simp [intOf]; omega
    · have R2 : Hid ((s.data.toList.all fun b => tagB b.toNat) = true) := Lib.hid (by have := A.out; rwa [List.take_of_length_le (by simp; omega)] at this)
      go_wp2_with fail
      go_ret
      exact ⟨by rw [R.out, R2.out]; rfl, rfl⟩

theorem isTextS_none (w : World) :
    Calls Tryd.prog 27 #[.string ⟨#[]⟩] w fun e w' => e = .returned (.bool false) ∧ w' = w := by
  go_enter Tryd.func27, Tryd.ntmps27
  go_wp2
  go_loop [3] (fun i => i = .int .i64 0) (fun _ => 0)
  case atStart => rfl
  case round =>
    subst hrel
    go_wp2
    go_ret
    exact ⟨rfl, rfl⟩
set_option maxRecDepth 100000 in
set_option maxHeartbeats 400000 in
theorem isTextS_any (s : ByteArray) (w : World) (hs : s.size ≤ maxLen) :
    Calls Tryd.prog 27 #[.string s] w fun e w' => e = .returned (.bool (allS textB s)) ∧ w' = w := by
  unfold maxLen at hs
  rcases str_cases s with rfl | ⟨hn1, hn2, hn3⟩
  · exact isTextS_none w
  have R : Hid (allS textB s = s.data.toList.all fun b => textB b.toNat) := Lib.hid (by unfold allS; rw [hn3]; rfl)
  clear hn3
  go_enter Tryd.func27, Tryd.ntmps27
  go_wp2
  go_loop [3] (fun i => ∃ k : Nat, k ≤ s.size ∧ i = .int .i64 k ∧ (s.data.toList.take k).all (fun b => textB b.toNat) = true) (fun i => s.size - (intOf i).toNat)
  case atStart => exact ⟨0, by omega, rfl, rfl⟩
  case round =>
    obtain ⟨k, hk, rfl, ha⟩ := hrel
    have A := Lib.hid ha
    clear ha
    by_cases hlt : k < s.size
    · have hi0 : (0 : Int) ≤ k := by omega
      have hi1 : (k : Int) < s.size := by omega
      have hl : k < s.data.toList.length := by simpa using hlt
      have hu := s[k].toNat_lt
      have hyes : Hid (textB (s[k].toNat : Int) = true → (s.data.toList.take (k + 1)).all (fun b => textB b.toNat) = true) := Lib.hid fun hp => take_all_yes hl A.out hp
      have hno : Hid (textB (s[k].toNat : Int) = false → (s.data.toList.all fun b => textB b.toNat) = false) := Lib.hid fun hp => take_all_no (q := fun b : UInt8 => textB b.toNat) hl hp
      go_wp2_with fail
      refine (rText_any _ _ (by omega) (by omega)).mono ?_
      rintro e w' ⟨rfl, rfl⟩
      cases hp : textB (s[k].toNat : Int)
      · have R2 := Lib.hid (hno.out hp)
        go_wp2_with fail
        go_ret
        exact ⟨by rw [R.out, R2.out]; rfl, rfl⟩
      · have R2 := Lib.hid (hyes.out hp)
        go_wp2_with fail
        go_round
        case rel => exact ⟨k + 1, by omega, by go_num, R2.out⟩
        case measure => simp [intOf]; omega
    · have R2 : Hid ((s.data.toList.all fun b => textB b.toNat) = true) := Lib.hid (by have := A.out; rwa [List.take_of_length_le (by simp; omega)] at this)
      go_wp2_with fail
      go_ret
      exact ⟨by rw [R.out, R2.out]; rfl, rfl⟩
end Go.Proofs.YtgdhakkfddmkjaaDoor
namespace Go.Proofs.YtgdhakkfddmkjaaDoor
open Go.RowKit

/-- The bytes of a string that is given by a list. -/
def ofL (l : List UInt8) : ByteArray := ⟨l.toArray⟩


theorem conv_one (W : World) (v : Int) (u : UInt8) (h : v = (u.toNat : Int)) :
    (convert 24 9 (.slice (some ⟨W.heap.size, 0, none⟩) 1 1)).run Tryd.prog (W.alloc (.cells #[.int .u8 v] 5)) = .ok (.string (ofL [u])) (W.alloc (.cells #[.int .u8 v] 5)) := by
  subst h
  exact run_convert_bytes_back (P := Tryd.prog) _ 24 9 5 ⟨W.heap.size, 0, none⟩ 1 [u] Tryd.underlying24 Tryd.underlying5 Tryd.underlying9 (fun j hj => by
    obtain rfl : j = 0 := by simpa using hj
    rw [show (⟨W.heap.size, 0, none⟩ : Addr).add 0 = ⟨W.heap.size, 0, none⟩ from rfl, (Blk.made W 5 _).cell]; rfl)

theorem upB_yes (u : UInt8) (h : 97 ≤ u.toNat ∧ u.toNat ≤ 122) : ((u.toNat : Int) - 32) = ((upB u).toNat : Int) := by
  unfold upB
  rw [if_pos h, UInt8.toNat_sub_of_le _ _ (by rw [UInt8.le_iff_toNat_le]; show 32 ≤ _; omega)]
  show _ = ((u.toNat - 32 : Nat) : Int); omega
theorem upB_no (u : UInt8) (h : ¬ (97 ≤ u.toNat ∧ u.toNat ≤ 122)) : upB u = u := by unfold upB; rw [if_neg h]

theorem up_grow (s t x : ByteArray) (k : Nat) (hk : k < s.size) (u : UInt8) (hu : upB s[k] = u) (hx : x = ofL [u]) (ht : t.data.toList = (s.data.toList.take k).map upB) :
    (t ++ x).data.toList = (s.data.toList.take (k + 1)).map upB := by
  subst hx
  rw [List.take_succ_eq_append_getElem (by simpa using hk), List.map_append, ← ht, ByteArray.data_append, Array.toList_append]
  rw [← hu, byte_at s k hk]; rfl

theorem slice_dig (d : Nat) (i j : Int) (hd : d < 10) (hi : i = (d : Int)) (hj : j = (d : Int) + 1) (W : World) :
    (Instr.slice 9 (Value.string ⟨#[48, 49, 50, 51, 52, 53, 54, 55, 56, 57]⟩) (some (.int .u32 i)) (some (.int .u32 j)) none).run Tryd.prog W = .ok (.string (ofL [UInt8.ofNat (48 + d)])) W := by
  subst hi hj
  obtain rfl | rfl | rfl | rfl | rfl | rfl | rfl | rfl | rfl | rfl : d = 0 ∨ d = 1 ∨ d = 2 ∨ d = 3 ∨ d = 4 ∨ d = 5 ∨ d = 6 ∨ d = 7 ∨ d = 8 ∨ d = 9 := by omega
  all_goals kernel_rfl

theorem ofL_data (l : List UInt8) : (ofL l).data.toList = l := rfl
theorem ba_ext {x y : ByteArray} (h : x.data.toList = y.data.toList) : x = y := by
  cases x; cases y; congr; exact Array.toList_inj.1 h
theorem ofL_self (s : ByteArray) : ofL s.data.toList = s := ba_ext rfl

theorem dig_grow (n k : Nat) (b x : ByteArray) (h10 : 10 ≤ k) (hx : x = ofL [UInt8.ofNat (48 + k % 10)]) (h : Lib.decDigits n = Lib.decDigits k ++ b.data.toList) :
    Lib.decDigits n = Lib.decDigits (k / 10) ++ (x ++ b).data.toList := by
  subst hx
  rw [h, Lib.decDigits, dif_neg (by omega), ByteArray.data_append, Array.toList_append, ofL_data, List.append_assoc]

set_option maxRecDepth 100000 in
set_option maxHeartbeats 400000 in
theorem rDecimal_any (n : Nat) (w : World) (hn : n < 4294967296) :
    Calls Tryd.prog 45 #[.int .u32 n] w fun e w' => e = .returned (.string (ofL (Lib.decDigits n))) ∧ w' = w := by
  go_enter Tryd.func45, Tryd.ntmps45
  go_wp2
  go_loop [0, 3] (fun m t => ∃ (k : Nat) (b : ByteArray), k ≤ n ∧ m = .int .u32 k ∧ t = .string b ∧ b.size ≤ n - k ∧ Lib.decDigits n = Lib.decDigits k ++ b.data.toList) (fun m _ => (intOf m).toNat)
  case atStart => exact ⟨n, ⟨#[]⟩, by omega, rfl, rfl, by simp [ByteArray.size], by simp⟩
  case round =>
    obtain ⟨k, b, hk, rfl, rfl, hb, ht⟩ := hrel
    have HT := Lib.hid ht
    clear ht
    by_cases h10 : 10 ≤ k
    · have hs := slice_dig (k % 10) ((k : Int) % 10) ((k : Int) % 10 + 1) (by omega) (by omega) (by omega)
      have hxl : (ofL [UInt8.ofNat (48 + k % 10)]).size ≤ 1 := Nat.le_refl _
      generalize hx : ofL [UInt8.ofNat (48 + k % 10)] = x at hs hxl
      have HX := Lib.hid hx
      clear hx
      go_wp2_with fail
      go_round
      case rel => exact ⟨k / 10, _, by omega, by go_num, rfl, by rw [ByteArray.size_append]; omega, dig_grow n k b x h10 HX.out.symm HT.out⟩
      case measure => simp [intOf]; omega
    · have hs := slice_dig k (k : Int) ((k : Int) + 1) (by omega) rfl rfl
      have hxl : (ofL [UInt8.ofNat (48 + k)]).size ≤ 1 := Nat.le_refl _
      generalize hx : ofL [UInt8.ofNat (48 + k)] = x at hs hxl
      have R : Hid (ofL (Lib.decDigits n) = x ++ b) := Lib.hid (by
        apply ba_ext
        rw [← hx, ofL_data, HT.out, Lib.decDigits, dif_pos (by omega), ByteArray.data_append, Array.toList_append, ofL_data])
      clear hx
      go_wp2_with fail
      go_ret
      exact ⟨by rw [R.out]; rfl, rfl⟩
theorem ofL_size (l : List UInt8) : (ofL l).size = l.length := by show l.toArray.size = _; rw [List.size_toArray]
theorem u8_ne {x : UInt8} {v : Nat} (hv : v < 256) (h : x ≠ UInt8.ofNat v) : ((x.toNat : Int) == (v : Int)) = false := by
  rw [beq_eq_false_iff_ne]
  intro e
  apply h
  apply UInt8.toNat_inj.1
  rw [UInt8.toNat_ofNat']
  omega
theorem u8_bne {x : UInt8} {v : Nat} (hv : v < 256) (h : x ≠ UInt8.ofNat v) : ((x.toNat : Int) != (v : Int)) = true := by
  have := u8_ne hv h
  simpa [bne] using this
end Go.Proofs.YtgdhakkfddmkjaaDoor
