/- The walk of the scanner's method literal: the ways joined. · The walk of ScanLiteral. · The walks of the reader's methods quoted, literal. · A slice of bytes cut at both ends. · The walks of isWord and of the reader's method word. · A map that the call itself has made, known entry by entry: made, stored into, looked up, for elements of whatever kind. · The walk of the reader's method next. · The walk of the reader's method next, whatever stands there. -/
import Derived.Test.YtkifhgnoadmfkaaDoorScan4sA
import Derived.Test.YtkifhgnoadmfkaaDoorScan4s5
import Derived.Test.YtkifhgnoadmfkaaDoorScan4s6
import Derived.Test.YtkifhgnoadmfkaaDoorJ5
import Derived.Test.YtkifhgnoadmfkaaDoorTok3
import Derived.Test.YtkifhgnoadmfkaaDoorJ3
import Derived.Test.YtkifhgnoadmfkaaDoorJ4
import Derived.Test.YtkifhgnoadmfkaaDoorJ0
import Derived.Maps.OwnOps
set_option linter.unusedVariables false
set_option linter.unusedSimpArgs false
namespace Go.Proofs.YtkifhgnoadmfkaaDoor
open Go.RowKit

theorem sLiteral_any (w0 : World) (g : Nat) (P : Option Addr) (l : List UInt8) (c : Nat) (a : Int) (w : World) (h : St w0 w g P l.length c a (.slice none 0 0) []) (hb : Bys w0 g P l) (hl : l.length ≤ 1048576) (hlc : l.length ≤ c) (hS : Std w0) (hgw : w0.heap.size ≤ g) :
    Calls Tryd.prog 74 #[.pointer (some ⟨g, 0, none⟩)] w (ScanPost w0 g P l.length c (scanL l a)) := by
  have hs : ∀ k : Nat, litSel l c k < 5 ∨ litSel l c k = 5 ∨ litSel l c k = 6 := by
    intro k
    unfold litSel
    split
    · simp
    · (repeat' split) <;> simp
  have ha : ∀ k : Nat, a = (k : Int) → k = a.toNat := fun k e => by omega
  by_cases h0 : 0 ≤ a ∧ a < l.length
  · by_cases h1 : l[a.toNat]? = some 123
    · have h2 : ∀ k (_ : a = ((k : Nat) : Int)) (hk : k < l.length), l[k] = 123 := fun k e hk => by
        rw [← ha k e, List.getElem?_eq_getElem hk] at h1
        injection h1
      rcases hs a.toNat with e | e | e
      · exact sLitA_any w0 g P l c a w h hb hl hlc hS hgw (fun k hk _ _ => by rw [ha k hk]; exact e)
      · exact sLit5_any w0 g P l c a w h hb hl hlc hS hgw h0.1 h0.2 h2 (fun k hk => by rw [ha k hk]; exact e)
      · exact sLit6_any w0 g P l c a w h hb hl hlc hS hgw h0.1 h0.2 h2 (fun k hk => by rw [ha k hk]; exact e)
    · exact sLitA_any w0 g P l c a w h hb hl hlc hS hgw (fun k hk _ h => absurd h (by rw [ha k hk]; exact h1))
  · exact sLitA_any w0 g P l c a w h hb hl hlc hS hgw (fun k hk h _ => absurd h0 (by omega))
end Go.Proofs.YtkifhgnoadmfkaaDoor
namespace Go.Proofs.YtkifhgnoadmfkaaDoor
open Go.RowKit

set_option maxRecDepth 100000 in
theorem scanLiteral_any (P : Option Addr) (l : List UInt8) (c : Nat) (a : Int) (w : World) (h : Bys w w.heap.size P l) (hl : l.length ≤ 1048576) (hlc : l.length ≤ c) (hS : Std w) :
    Calls Tryd.prog 62 #[.slice P l.length c, .int .i64 a] w (RetS w (scanL l a)) := by
  have H := Lib.hid (scan_any 74 P l c a w (scanL l a) (fun _ _ => rfl) (fun w1 hst => sLiteral_any w w.heap.size P l c a w1 hst h hl hlc hS (Nat.le_refl _)))
  generalize scanL l a = r at H ⊢
  generalize l.length = n at *
  clear h hl hlc hS
  go_enter Tryd.func62, Tryd.ntmps62
  go_wp2_with fail
  refine H.out.mono ?_
  rintro e w1 hp
  have HP := Lib.hid hp
  obtain ⟨v, rfl, -, -⟩ := hp
  go_wp2_with fail
  go_ret3
  exact HP.out

end Go.Proofs.YtkifhgnoadmfkaaDoor
namespace Go.Proofs.YtkifhgnoadmfkaaDoor
open Go.RowKit

set_option maxRecDepth 100000 in
theorem rquoted_any (g : Nat) (P : Option Addr) (l : List UInt8) (c : Nat) (k : Nat) (w : World) (h : RdSt w g P l.length c k) (hk : k ≤ 1048576) (hy : Bys w g P l) (hl : l.length ≤ 1048576) :
    Calls Tryd.prog 42 #[.pointer (some ⟨g, 0, none⟩)] w (RdPost w g P l.length c 5 (rdM (scanQ l k)) 0 (scanQ l k).isSome (if (scanQ l k).isSome then (rdJ (scanQ l k) : Int) else (k : Int))) := by
  have HS := Lib.hid (fun w1 (h1 : RdSt w1 g P l.length c k) (hb : Below w.heap.size w w1) => form_any 61 5 g P l.length c k w1 (scanQ l k) h1 hk (fun _ _ => rfl) (fun W hW => scanQuoted_any P l c k W (((hy.belowle (hb.trans (hW.mono hb.size)) (Nat.le_of_lt (Blk.lt h)))).more (by have := hb.size; have := hW.size; have := Blk.lt h; omega)) hl))
  have hlt := Blk.lt h
  have H := Lib.hid h
  generalize rdM (scanQ l k) = m at HS ⊢
  generalize rdJ (scanQ l k) = j at HS ⊢
  generalize (scanQ l k).isSome = ob at HS ⊢
  generalize (if ob = true then (j : Int) else (k : Int)) = kf at HS ⊢
  generalize l.length = n at *
  clear h hy hl
  go_enter Tryd.func42, Tryd.ntmps42
  go_wp2_with fail
  refine (HS.out _ ?_ ?_).mono ?_
  · exact Blk.past H.out _
  · exact (Below.refl _ _).alloc (Nat.le_refl _) _
  · rintro e w1 ⟨rfl, hr, hg⟩
    have hbk : Blk w1 w.heap.size 36 #[.int .i64 0, .string ⟨#[]⟩, .int .i64 0] := (hg.block w.heap.size (by rw [World.size_alloc]; omega) (by simp only [ne_eq, Option.some.injEq]; omega)).trans (heap_alloc_new w _)
    have d0 : w1.cell? ⟨w.heap.size, 0, none⟩ = some (.int .i64 0) := by rw [hbk.cell]; rfl
    have d1 : w1.cell? ⟨w.heap.size, 1, none⟩ = some (.string ⟨#[]⟩) := by rw [hbk.cell]; rfl
    have d2 : w1.cell? ⟨w.heap.size, 2, none⟩ = some (.int .i64 0) := by rw [hbk.cell]; rfl
    have f0 := hbk.frz 0
    have f1 := hbk.frz 1
    have f2 := hbk.frz 2
    have HH := Lib.hid (And.intro hr (And.intro hg hbk))
    clear hr hg hbk
    go_wp2_with fail
    have hput := ((HH.out.2.2.put 0 (.int .i64 5)).put 1 (.string (ofL m))).put 2 (.int .i64 0)
    have e0 := hput.cell 0
    have e1 := hput.cell 1
    have e2 := hput.cell 2
    have hgb : g ≠ w.heap.size := by omega
    refine bodyPost_ret (v := .tuple #[.agg #[.int .i64 5, .string (ofL m), .int .i64 0], .bool ob]) (by simp [results, Tryd.results42, go_sem, e0, e1, e2]) rfl
      ⟨rfl, ((Blk.far HH.out.1 (p := ⟨w.heap.size, 0, none⟩) hgb _).far (p := ⟨w.heap.size, 1, none⟩) hgb _).far (p := ⟨w.heap.size, 2, none⟩) hgb _, ?_⟩
    exact grown_new (grown_new (grown_new (grown_trans (World.grownBy_alloc w _ _) HH.out.2.1) (Nat.le_refl _) _ _) (Nat.le_refl _) _ _) (Nat.le_refl _) _ _

set_option maxRecDepth 100000 in
theorem rliteral_any (g : Nat) (P : Option Addr) (l : List UInt8) (c : Nat) (k : Nat) (w : World) (h : RdSt w g P l.length c k) (hk : k ≤ 1048576) (hy : Bys w g P l) (hl : l.length ≤ 1048576) (hlc : l.length ≤ c) (hS : Std w) :
    Calls Tryd.prog 43 #[.pointer (some ⟨g, 0, none⟩)] w (RdPost w g P l.length c 6 (rdM (scanL l k)) 0 (scanL l k).isSome (if (scanL l k).isSome then (rdJ (scanL l k) : Int) else (k : Int))) := by
  have HS := Lib.hid (fun w1 (h1 : RdSt w1 g P l.length c k) (hb : Below w.heap.size w w1) => form_any 62 6 g P l.length c k w1 (scanL l k) h1 hk (fun _ _ => rfl) (fun W hW => scanLiteral_any P l c k W (((hy.belowle (hb.trans (hW.mono hb.size)) (Nat.le_of_lt (Blk.lt h)))).more (by have := hb.size; have := hW.size; have := Blk.lt h; omega)) hl hlc (hS.below (hb.trans (hW.mono hb.size)))))
  have hlt := Blk.lt h
  have H := Lib.hid h
  generalize rdM (scanL l k) = m at HS ⊢
  generalize rdJ (scanL l k) = j at HS ⊢
  generalize (scanL l k).isSome = ob at HS ⊢
  generalize (if ob = true then (j : Int) else (k : Int)) = kf at HS ⊢
  generalize l.length = n at *
  clear h hy hl hlc hS
  go_enter Tryd.func43, Tryd.ntmps43
  go_wp2_with fail
  refine (HS.out _ ?_ ?_).mono ?_
  · exact Blk.past H.out _
  · exact (Below.refl _ _).alloc (Nat.le_refl _) _
  · rintro e w1 ⟨rfl, hr, hg⟩
    have hbk : Blk w1 w.heap.size 36 #[.int .i64 0, .string ⟨#[]⟩, .int .i64 0] := (hg.block w.heap.size (by rw [World.size_alloc]; omega) (by simp only [ne_eq, Option.some.injEq]; omega)).trans (heap_alloc_new w _)
    have d0 : w1.cell? ⟨w.heap.size, 0, none⟩ = some (.int .i64 0) := by rw [hbk.cell]; rfl
    have d1 : w1.cell? ⟨w.heap.size, 1, none⟩ = some (.string ⟨#[]⟩) := by rw [hbk.cell]; rfl
    have d2 : w1.cell? ⟨w.heap.size, 2, none⟩ = some (.int .i64 0) := by rw [hbk.cell]; rfl
    have f0 := hbk.frz 0
    have f1 := hbk.frz 1
    have f2 := hbk.frz 2
    have HH := Lib.hid (And.intro hr (And.intro hg hbk))
    clear hr hg hbk
    go_wp2_with fail
    have hput := ((HH.out.2.2.put 0 (.int .i64 6)).put 1 (.string (ofL m))).put 2 (.int .i64 0)
    have e0 := hput.cell 0
    have e1 := hput.cell 1
    have e2 := hput.cell 2
    have hgb : g ≠ w.heap.size := by omega
    refine bodyPost_ret (v := .tuple #[.agg #[.int .i64 6, .string (ofL m), .int .i64 0], .bool ob]) (by simp [results, Tryd.results43, go_sem, e0, e1, e2]) rfl
      ⟨rfl, ((Blk.far HH.out.1 (p := ⟨w.heap.size, 0, none⟩) hgb _).far (p := ⟨w.heap.size, 1, none⟩) hgb _).far (p := ⟨w.heap.size, 2, none⟩) hgb _, ?_⟩
    exact grown_new (grown_new (grown_new (grown_trans (World.grownBy_alloc w _ _) HH.out.2.1) (Nat.le_refl _) _ _) (Nat.le_refl _) _ _) (Nat.le_refl _) _ _
end Go.Proofs.YtkifhgnoadmfkaaDoor
namespace Go.Proofs.YtkifhgnoadmfkaaDoor
open Go.RowKit

theorem cut_bytes (P : Option Addr) (n cap i j : Nat) (hij : i ≤ j) (hj : j ≤ n) (hn : n ≤ cap) :
    ∃ P2, (∀ W, (Instr.slice 22 (.slice P n cap) (some (.int .i64 i)) (some (.int .i64 j)) none).run Tryd.prog W = .ok (.slice P2 (j - i) (cap - i)) W) ∧
      (∀ W B (l : List UInt8), l.length = n → Bys W B P l → Bys W B P2 ((l.drop i).take (j - i))) := by
  refine ⟨if cap = i then P else P.map (·.add i), fun W => ?_, fun W B l hl h => ?_⟩
  · go_simp
    intro h; omega
  · subst hl
    exact (h.from_if i cap hn).upto _
end Go.Proofs.YtkifhgnoadmfkaaDoor
namespace Go.Proofs.YtkifhgnoadmfkaaDoor
open Go.RowKit

set_option maxRecDepth 100000 in
theorem idx_word : ∀ f : Fin 256, decide (Lib.indexByte [40, 41, 34, 123] (f.val).toUInt8 < 0) = !(f.val.toUInt8 == 40 || f.val.toUInt8 == 41 || f.val.toUInt8 == 34 || f.val.toUInt8 == 123) := by decide +kernel

set_option maxRecDepth 100000 in
theorem isWord_any (c : UInt8) (w : World) :
    Calls Tryd.prog 63 #[.int .u8 (c.toNat : Int)] w fun e w' => e = .returned (.bool (wordB c)) ∧ w' = w := by
  have hI := Tryd.strings_IndexByte ⟨#[40, 41, 34, 123]⟩ (c.toNat : Int) w
  have ec : ((c.toNat : Int)).toNat.toUInt8 = c := by rw [Int.toNat_natCast]; exact UInt8.ofNat_toNat
  have hd := idx_word ⟨c.toNat, c.toNat_lt⟩
  simp only at hd
  rw [show c.toNat.toUInt8 = c from UInt8.ofNat_toNat] at hd
  rw [ec] at hI
  change Calls _ _ _ _ fun e w' => e = .returned (.int .i64 (Lib.indexByte [40, 41, 34, 123] c)) ∧ w' = w at hI
  have R : wordB c = (decide (32 < c.toNat) && decide (c.toNat ≤ 126) && decide (Lib.indexByte [40, 41, 34, 123] c < 0)) := by rw [hd]; rfl
  have hc := c.toNat_lt
  rw [R]
  clear R hd ec
  generalize Lib.indexByte [40, 41, 34, 123] c = v at hI ⊢
  generalize c.toNat = n at hI hc ⊢
  have HI := Lib.hid hI
  clear hI
  by_cases h1 : 32 < n
  · rw [decide_eq_true h1]
    have i1 : (32 : Int) < n := by omega
    by_cases h2 : n ≤ 126
    · rw [decide_eq_true h2]
      have i2 : (n : Int) ≤ 126 := by omega
      rw [show (true && true && decide (v < 0)) = decide (v < 0) from rfl]
      generalize hb : decide (v < 0) = b
      clear h1 h2 hc
      go_enter Tryd.func63, Tryd.ntmps63
      go_wp2_with fail
      refine HI.out.mono ?_
      rintro e w1 ⟨rfl, rfl⟩
      go_wp2_with fail
      go_ret
      exact ⟨rfl, rfl⟩
    · rw [decide_eq_false h2]
      have i2 : (126 : Int) < n := by omega
      clear h1 h2 hc
      go_enter Tryd.func63, Tryd.ntmps63
      go_wp2_with fail
      go_ret
      exact ⟨rfl, rfl⟩
  · rw [decide_eq_false h1]
    have i1 : (n : Int) ≤ 32 := by omega
    clear h1 hc
    go_enter Tryd.func63, Tryd.ntmps63
    go_wp2_with fail
    go_ret
    exact ⟨rfl, rfl⟩

theorem takeWhile_take {p : UInt8 → Bool} : ∀ (m : Nat) (l : List UInt8), m ≤ l.length → (l.take m).all p = true → (∀ h : m < l.length, p l[m] = false) → l.takeWhile p = l.take m
  | 0, [], _, _, _ => rfl
  | 0, x :: l, _, _, h => by
    have := h (by simp)
    simp only [List.getElem_cons_zero] at this
    simp [List.takeWhile, this]
  | m + 1, [], hm, _, _ => by simp at hm
  | m + 1, x :: l, hm, ha, h => by
    simp only [List.take_succ_cons, List.all_cons, Bool.and_eq_true] at ha
    simp only [List.take_succ_cons, List.takeWhile, ha.1]
    rw [takeWhile_take m l (by simpa using hm) ha.2 (fun h' => by have := h (by simpa using h'); simpa using this)]

theorem grown_many {w w' : World} {row : Option Nat} (h : w.grownBy w' row) (n : Nat) : w.grownBy (w'.drewN n) row := ⟨h.os, h.tape, h.output, h.size, h.block⟩
/-- How far a word has been read. -/
def WdAt (l : List UInt8) (k j : Nat) : Prop := k ≤ j ∧ j ≤ l.length ∧ ((l.drop k).take (j - k)).all wordB = true
theorem WdAt.start {l : List UInt8} {k : Nat} (h : k ≤ l.length) : WdAt l k k := ⟨Nat.le_refl _, h, by simp⟩
theorem WdAt.next {l : List UInt8} {k j : Nat} (h : WdAt l k j) (hj : j < l.length) (hw : wordB l[j] = true) : WdAt l k (j + 1) := by
  obtain ⟨h1, h2, h3⟩ := h
  have hd : j - k < (l.drop k).length := by rw [List.length_drop]; omega
  refine ⟨by omega, hj, ?_⟩
  rw [show j + 1 - k = (j - k) + 1 by omega, List.take_succ_eq_append_getElem hd, List.all_append, h3]
  simp only [List.getElem_drop, List.all_cons, List.all_nil, Bool.and_true, Bool.true_and]
  simpa [show k + (j - k) = j by omega] using hw
theorem WdAt.stop {l : List UInt8} {k j : Nat} (h : WdAt l k j) (hs : ∀ hj : j < l.length, wordB l[j] = false) : (l.drop k).takeWhile wordB = (l.drop k).take (j - k) ∧ ((l.drop k).takeWhile wordB).length = j - k := by
  obtain ⟨h1, h2, h3⟩ := h
  have e : (l.drop k).takeWhile wordB = (l.drop k).take (j - k) := takeWhile_take _ _ (by rw [List.length_drop]; omega) h3 (fun hj => by
    rw [List.length_drop] at hj
    have := hs (by omega)
    simpa [List.getElem_drop, show k + (j - k) = j by omega] using this)
  refine ⟨e, ?_⟩
  rw [e, List.length_take, List.length_drop]; omega
theorem RdSt.at_cur {w : World} {g : Nat} {P : Option Addr} {n c k : Nat} (h : RdSt w g P n c (k : Int)) : curAt w g = k := by
  unfold curAt; rw [h.cells.2.1]; simp [intOf]
/-- What a method of the reader for words hands back and leaves. -/
def WdRel (w0 : World) (g : Nat) (P : Option Addr) (l : List UInt8) (c k : Nat) (wr : World) : Prop :=
  ∃ j : Nat, WdAt l k j ∧ RdSt wr g P l.length c (j : Int) ∧ Blk wr w0.heap.size 36 #[.int .i64 0, .string ⟨#[]⟩, .int .i64 0] ∧ w0.grownBy wr (some g)

set_option maxRecDepth 100000 in
set_option maxHeartbeats 1600000 in
theorem word_any (g : Nat) (P : Option Addr) (l : List UInt8) (c : Nat) (k : Nat) (w : World) (h : RdSt w g P l.length c k) (hk : k ≤ l.length) (hy : Bys w g P l) (hl : l.length ≤ 1048576) (hlc : l.length ≤ c) :
    Calls Tryd.prog 44 #[.pointer (some ⟨g, 0, none⟩)] w (RdPost w g P l.length c 4 ((l.drop k).takeWhile wordB) 0 (decide (0 < ((l.drop k).takeWhile wordB).length)) (((k + ((l.drop k).takeWhile wordB).length : Nat)) : Int)) := by
  obtain ⟨c0, c1, f1, hlt⟩ := h.cells
  have H := Lib.hid h
  have HY := Lib.hid (fun W (hW : w.grownBy W (some g)) => hy.keep (w' := W) (fun q hq => by
    refine World.cell?_of_block (hW.block q.block (Nat.lt_trans hq hlt) (fun e => ?_))
    injection e with e
    omega))
  have hne : w.heap.size ≠ g := by omega
  have hk5 : k ≤ 1048576 := by omega
  obtain ⟨n, hn⟩ : ∃ n, l.length = n := ⟨_, rfl⟩
  have HN := Lib.hid hn
  rw [hn] at hk hl hlc
  rw [hn] at c0 ⊢
  generalize hT : (l.drop k).takeWhile wordB = T
  have HT := Lib.hid hT
  clear hn hT h hy
  go_enter Tryd.func44, Tryd.ntmps44
  go_wp2_with fail
  go_loopw [31] (fun _ wr => WdRel w g P l c k wr) (fun _ wr => l.length - curAt wr g)
  case atStart =>
    exact ⟨k, WdAt.start (by rw [HN.out]; exact hk), Blk.past H.out _, Blk.made _ _ _, World.grownBy_alloc _ _ _⟩
  case round =>
    obtain ⟨j, hj, hr, hb, hg⟩ := hrel
    have HJ := Lib.hid hj
    have HR := Lib.hid (And.intro hr (And.intro hb hg))
    have hjn : j ≤ n := by have := hj.2.1; have := HN.out; omega
    have hkj : k ≤ j := hj.1
    have CUR := Lib.hid hr.at_cur
    rw [HN.out] at hr
    obtain ⟨e0, e1, g1, _⟩ := hr.cells
    clear hj hr hb hg
    by_cases hjl : j < n
    · have hjl2 : j < l.length := by have := HN.out; omega
      obtain ⟨p, o, rfl, hpg, hc⟩ := HY.out wr HR.out.2.2 (by omega)
      have hcj := hc j hjl2
      obtain ⟨x, hx⟩ : ∃ x, l[j] = x := ⟨_, rfl⟩
      have HX := Lib.hid hx
      rw [hx] at hcj
      have hi0 : (0 : Int) ≤ j := by omega
      have hi1 : (j : Int) < n := by omega
      clear hc hx
      have HW := Lib.hid (fun W => isWord_any x W)
      cases hb : wordB x with
      | true =>
        rw [hb] at HW
        have HJ2 := Lib.hid (HJ.out.next hjl2 (by rw [HX.out]; exact hb))
        have HR2 := Lib.hid (And.intro (HR.out.1.move ((j + 1 : Nat) : Int)) (And.intro (Blk.far HR.out.2.1 (p := ⟨g, 1, none⟩) hne (.int .i64 ((j + 1 : Nat) : Int))) (grown_trans HR.out.2.2 (grown_set wr g 1 (.int .i64 ((j + 1 : Nat) : Int))))))
        clear hb
        go_wp2_with fail
        go_quiet ((go_at_call 63; exact Calls.quiet_of_same (HW.out _)))
        go_wp2_with fail
        go_roundw
        case rel => exact ⟨j + 1, HJ2.out, Blk.drewN HR2.out.1 nq, HR2.out.2.1.drewN nq, grown_many HR2.out.2.2 nq⟩
        case measure =>
          have e := RdSt.at_cur (Blk.drewN HR2.out.1 nq)
          have e2 : curAt ((wr.drewN nq).setCell ⟨g, 1, none⟩ (.int .i64 ((j : Int) + 1))) g = j + 1 := e
          rw [CUR.out, e2]; omega
      | false =>
        rw [hb] at HW
        have R := Lib.hid (HJ.out.stop (fun _ => by rw [HX.out]; exact hb))
        clear hb
        go_wp2_with fail
        go_quiet ((go_at_call 63; exact Calls.quiet_of_same (HW.out _)))
        go_wp2_with fail
        obtain ⟨R1, R2⟩ := R.out
        have HR3 := Lib.hid (And.intro (Blk.drewN HR.out.1 nq) (And.intro (HR.out.2.1.drewN nq) (grown_many HR.out.2.2 nq)))
        have hr3 := HR3.out.1
        rw [HN.out] at hr3
        obtain ⟨x0, x1, y1, _⟩ := RdSt.cells hr3
        have hbk := HR3.out.2.1
        have d0 := hbk.cell 0
        have d1 := hbk.cell 1
        have d2 := hbk.cell 2
        have f0 := hbk.frz 0
        have f1' := hbk.frz 1
        have f2 := hbk.frz 2
        simp only [List.getElem?_toArray, List.getElem?_cons_zero, List.getElem?_cons_succ] at d0 d1 d2
        obtain ⟨P2, hsl, hb2⟩ := cut_bytes (some ⟨p, o, none⟩) n c k j hkj hjn hlc
        have hyy := HY.out _ HR3.out.2.2
        have hy2 := hb2 _ _ _ HN.out hyy
        have hcv := conv_bys (P := Tryd.prog) hy2.drew (c - k) Tryd.underlying22 Tryd.underlying5 Tryd.underlying9
        rw [← R1, R2, HT.out] at hcv
        have hT2 : T.length = j - k := by rw [← HT.out]; exact R2
        have hsl' := hsl
        have HR4 := Lib.hid (And.intro hT2 HR3.out)
        have hjk : (T.length : Int) = (j : Int) - k := by omega
        have hgt : decide (k < j) = decide (0 < T.length) := by rw [Bool.eq_iff_iff, decide_eq_true_eq, decide_eq_true_eq]; omega
        have hkT : ((k + T.length : Nat) : Int) = j := by omega
        have HGT := Lib.hid (And.intro hgt hkT)
        clear hgt hbk hb2 hyy hy2 R1 R2 hjk hkT hT2 HR3 hr3 hsl'
        generalize wr.drewN nq = w2 at *
        go_region
        go_wp2_with fail
        have HR5 := Lib.hid HR4.out.2
        have hput := ((HR5.out.2.1.put 0 (.int .i64 4)).put 1 (.string ⟨T.toArray⟩)).put 2 (.int .i64 0)
        have z0 := hput.drew.cell 0
        have z1 := hput.drew.cell 1
        have z2 := hput.drew.cell 2
        have hgw : g ≠ w.heap.size := fun e => hne e.symm
        rw [HGT.out.1]
        refine bodyPost_ret (v := .tuple #[.agg #[.int .i64 4, .string ⟨T.toArray⟩, .int .i64 0], .bool (decide (0 < T.length))]) (by simp [results, Tryd.results44, go_sem, z0, z1, z2]) rfl
          ⟨rfl, by rw [HGT.out.2, ← HN.out]; exact Blk.drew (((Blk.far HR5.out.1 (p := ⟨w.heap.size, 0, none⟩) hgw _).far (p := ⟨w.heap.size, 1, none⟩) hgw _).far (p := ⟨w.heap.size, 2, none⟩) hgw _), ?_⟩
        exact grown_many (grown_new (grown_new (grown_new HR5.out.2.2 (Nat.le_refl _) _ _) (Nat.le_refl _) _ _) (Nat.le_refl _) _ _) 1
    · have R := Lib.hid (HJ.out.stop (fun hj => by have := HN.out; omega))
      have hd : decide ((j : Int) < n) = false := decide_eq_false (by omega)
      have hd2 : decide (j < n) = false := decide_eq_false hjl
      go_wp2_with fail
      go_quiet (fail)
      go_wp2_with fail
      obtain ⟨R1, R2⟩ := R.out
      have HR3 := Lib.hid (And.intro (Blk.drewN HR.out.1 nq) (And.intro (HR.out.2.1.drewN nq) (grown_many HR.out.2.2 nq)))
      have hr3 := HR3.out.1
      rw [HN.out] at hr3
      obtain ⟨x0, x1, y1, _⟩ := RdSt.cells hr3
      have hbk := HR3.out.2.1
      have d0 := hbk.cell 0
      have d1 := hbk.cell 1
      have d2 := hbk.cell 2
      have f0 := hbk.frz 0
      have f1' := hbk.frz 1
      have f2 := hbk.frz 2
      simp only [List.getElem?_toArray, List.getElem?_cons_zero, List.getElem?_cons_succ] at d0 d1 d2
      obtain ⟨P2, hsl, hb2⟩ := cut_bytes P n c k j hkj hjn hlc
      have hyy := HY.out _ HR3.out.2.2
      have hy2 := hb2 _ _ _ HN.out hyy
      have hcv := conv_bys (P := Tryd.prog) hy2.drew (c - k) Tryd.underlying22 Tryd.underlying5 Tryd.underlying9
      rw [← R1, R2, HT.out] at hcv
      have hT2 : T.length = j - k := by rw [← HT.out]; exact R2
      have hsl' := hsl
      have HR4 := Lib.hid (And.intro hT2 HR3.out)
      have hjk : (T.length : Int) = (j : Int) - k := by omega
      have hgt : decide (k < j) = decide (0 < T.length) := by rw [Bool.eq_iff_iff, decide_eq_true_eq, decide_eq_true_eq]; omega
      have hkT : ((k + T.length : Nat) : Int) = j := by omega
      have HGT := Lib.hid (And.intro hgt hkT)
      clear hgt hbk hb2 hyy hy2 R1 R2 hjk hkT hT2 HR3 hr3 hsl'
      generalize wr.drewN nq = w2 at *
      go_region
      go_wp2_with fail
      have HR5 := Lib.hid HR4.out.2
      have hput := ((HR5.out.2.1.put 0 (.int .i64 4)).put 1 (.string ⟨T.toArray⟩)).put 2 (.int .i64 0)
      have z0 := hput.drew.cell 0
      have z1 := hput.drew.cell 1
      have z2 := hput.drew.cell 2
      have hgw : g ≠ w.heap.size := fun e => hne e.symm
      rw [HGT.out.1]
      refine bodyPost_ret (v := .tuple #[.agg #[.int .i64 4, .string ⟨T.toArray⟩, .int .i64 0], .bool (decide (0 < T.length))]) (by simp [results, Tryd.results44, go_sem, z0, z1, z2]) rfl
        ⟨rfl, by rw [HGT.out.2, ← HN.out]; exact Blk.drew (((Blk.far HR5.out.1 (p := ⟨w.heap.size, 0, none⟩) hgw _).far (p := ⟨w.heap.size, 1, none⟩) hgw _).far (p := ⟨w.heap.size, 2, none⟩) hgw _), ?_⟩
      exact grown_many (grown_new (grown_new (grown_new HR5.out.2.2 (Nat.le_refl _) _ _) (Nat.le_refl _) _ _) (Nat.le_refl _) _ _) 1
end Go.Proofs.YtkifhgnoadmfkaaDoor
namespace Go.Proofs.YtkifhgnoadmfkaaDoor
open Go.RowKit Go.ChangeMaps

/-- Keys of one plain kind. -/
structure Kp (P : Program) (k : TypeId) {α : Type} [DecidableEq α] (key : α → Value) : Prop where
  desc : ∃ d, P.underlying k = some d ∧ (∀ a b, Instr.sameNow d (key a) (key b) = some (decide (a = b)))
  check : ∀ (em : Bool) (w : World) (a : α), (Instr.checkKey em 10000 k (key a)).run P w = .ok () w
  stays : ∀ (w : World) (a : α), (Instr.keyThatStays (key a) (key a)).run P w = .ok (key a) w

theorem ba_beq (a b : ByteArray) : (a == b) = decide (a = b) := by
  cases a with | mk x => cases b with | mk y =>
  rw [show ((ByteArray.mk x) == (ByteArray.mk y)) = (x == y) from rfl, Bool.eq_iff_iff, beq_iff_eq, decide_eq_true_eq]
  exact ⟨fun h => by rw [h], fun h => by injection h⟩
theorem Kp.int {P : Program} {k : TypeId} {q : IntKind} (h : P.underlying k = some (.int q)) : Kp P k (Value.int q) :=
  ⟨⟨_, h, fun a b => by simp [Instr.sameNow]; rfl⟩, fun em w a => by rw [show (10000 : Nat) = 9999 + 1 from rfl, Instr.checkKey]; simp [run_underlying h], fun w a => by simp [Instr.keyThatStays, Instr.sameBits]⟩
theorem Kp.str {P : Program} {k : TypeId} (h : P.underlying k = some .string) : Kp P k Value.string :=
  ⟨⟨_, h, fun a b => by simp only [Instr.sameNow, ba_beq]⟩, fun em w a => by rw [show (10000 : Nat) = 9999 + 1 from rfl, Instr.checkKey]; simp [run_underlying h], fun w a => by
    have : (a == a) = true := by rw [ba_beq]; simp
    simp [Instr.keyThatStays, Instr.sameBits, this]⟩

section
variable {α : Type} {key : α → Value}
/-- Block b is a map whose entries, in the order of their making, are l. -/
def KMap (w : World) (b : Nat) (key : α → Value) (l : List (α × Value)) : Prop :=
  ∃ es clock, w.heap[b]? = some (.map es clock) ∧ es.toList.map (fun e => (e.key, e.val)) = l.map fun p => (key p.1, p.2)
def lookK [DecidableEq α] (l : List (α × Value)) (a : α) : Option Value := (l.find? fun p => decide (a = p.1)).map (·.2)

theorem KMap.lt {w : World} {b : Nat} {l : List (α × Value)} (h : KMap w b key l) : b < w.heap.size := by
  obtain ⟨es, clock, hb, _⟩ := h
  exact (Array.getElem?_eq_some_iff.1 hb).1
theorem KMap.made (w : World) : KMap (w.alloc (.map #[] 0)) w.heap.size key [] := ⟨#[], 0, heap_alloc_new w _, rfl⟩
theorem KMap.drew {w : World} {b : Nat} {l : List (α × Value)} (h : KMap w b key l) : KMap w.drew b key l := h
theorem KMap.drewN {w : World} {b : Nat} {l : List (α × Value)} (h : KMap w b key l) (n : Nat) : KMap (w.drewN n) b key l := h
theorem KMap.grown {w w' : World} {b : Nat} {row : Option Nat} {l : List (α × Value)} (h : KMap w b key l) (hg : w.grownBy w' row) (hne : some b ≠ row) : KMap w' b key l := by
  have hlt := h.lt
  obtain ⟨es, clock, hb, he⟩ := h
  exact ⟨es, clock, (hg.block b hlt hne).trans hb, he⟩
theorem KMap.below {w w' : World} {b B : Nat} {l : List (α × Value)} (h : KMap w b key l) (hb : Below B w w') (hB : b < B) : KMap w' b key l := by
  obtain ⟨es, clock, hm, he⟩ := h
  exact ⟨es, clock, (hb.block b hB).trans hm, he⟩
theorem KMap.past {w : World} {b : Nat} {l : List (α × Value)} (h : KMap w b key l) (o : Obj) : KMap (w.alloc o) b key l := by
  have hlt := h.lt
  obtain ⟨es, clock, hm, he⟩ := h
  exact ⟨es, clock, (Below.heap_alloc w o b hlt).trans hm, he⟩
theorem KMap.far {w : World} {b : Nat} {l : List (α × Value)} (h : KMap w b key l) {p : Addr} (hp : b ≠ p.block) (u : Value) : KMap (w.setCell p u) b key l := by
  obtain ⟨es, clock, hm, he⟩ := h
  exact ⟨es, clock, (Below.heap_setCell w p u b hp).trans hm, he⟩

variable [DecidableEq α]
theorem findNow_gen {d : TypeDesc} (hd : ∀ a b, Instr.sameNow d (key a) (key b) = some (decide (a = b))) (a : α) : ∀ (es : List MapEntry) (l : List (α × Value)) (i : Nat), es.map (fun e => (e.key, e.val)) = l.map (fun p => (key p.1, p.2)) →
    ∃ r, Instr.findNow d (key a) es i = some r ∧ r.map (·.2) = lookK l a ∧ (∀ j v, r = some (j, v) → i ≤ j ∧ ∃ p, l[j - i]? = some p ∧ p.1 = a)
  | [], [], i, _ => ⟨none, rfl, rfl, by simp⟩
  | [], _ :: _, _, h => by simp at h
  | _ :: _, [], _, h => by simp at h
  | e :: es, p :: l, i, h => by
    simp only [List.map_cons, List.cons.injEq, Prod.mk.injEq] at h
    obtain ⟨⟨hk, hv⟩, ht⟩ := h
    unfold Instr.findNow
    rw [hk, hd]
    by_cases hap : a = p.1
    · refine ⟨some (i, e.val), by simp [hap], by simp [lookK, hap, hv], ?_⟩
      rintro j v hj
      simp only [Option.some.injEq, Prod.mk.injEq] at hj
      obtain ⟨rfl, _⟩ := hj
      exact ⟨Nat.le_refl _, p, by simp, hap.symm⟩
    · obtain ⟨r, h1, h2, h3⟩ := findNow_gen hd a es l (i + 1) ht
      refine ⟨r, by simp [hap, h1], by rw [h2]; simp [lookK, hap], ?_⟩
      intro j v hj
      obtain ⟨hij, q, hq, hqa⟩ := h3 j v hj
      refine ⟨by omega, q, ?_, hqa⟩
      rw [show j - i = (j - (i + 1)) + 1 by omega]
      simpa using hq

variable {P : Program} {t k e : TypeId}
theorem KMap.find {w : World} {b : Nat} {l : List (α × Value)} (K : Kp P k key) (a : α) {es : List MapEntry} (he : es.map (fun e => (e.key, e.val)) = l.map fun p => (key p.1, p.2)) :
    ∃ r, (Instr.findKey k (key a) es).run P w = .ok r w ∧ r.map (·.2) = lookK l a ∧ (∀ j v, r = some (j, v) → ∃ p, l[j]? = some p ∧ p.1 = a) := by
  obtain ⟨d, hd, hs⟩ := K.desc
  obtain ⟨r, h1, h2, h3⟩ := findNow_gen hs a es l 0 he
  refine ⟨r, by simp [Instr.findKey, run_underlying hd, h1], h2, fun j v hj => ?_⟩
  obtain ⟨_, p, hp, hpa⟩ := h3 j v hj
  exact ⟨p, by simpa using hp, hpa⟩

/-- 'v, ok := m[k]' -/
theorem KMap.look {w : World} {b : Nat} {l : List (α × Value)} (h : KMap w b key l) (K : Kp P k key) (ht : P.underlying t = some (.map k e)) {z : Value} (hz : (zeroValue e).run P w = .ok z w) (a : α) :
    (Instr.lookup t (.map (some b)) (key a) true).run P w = .ok (.tuple #[(lookK l a).getD z, .bool (lookK l a).isSome]) w := by
  obtain ⟨es, clock, hb, he⟩ := h
  obtain ⟨r, h1, h2, _⟩ := KMap.find (w := w) (b := b) K a he
  rw [← h2]
  cases r with
  | none => simp [Instr.lookup, run_underlying ht, MapKept.run_getObj_map hb, K.check, h1, hz, Result.andThen]
  | some r => simp [Instr.lookup, run_underlying ht, MapKept.run_getObj_map hb, K.check, h1, Result.andThen]
/-- 'm[k]' -/
theorem KMap.look1 {w : World} {b : Nat} {l : List (α × Value)} (h : KMap w b key l) (K : Kp P k key) (ht : P.underlying t = some (.map k e)) {z : Value} (hz : (zeroValue e).run P w = .ok z w) (a : α) :
    (Instr.lookup t (.map (some b)) (key a) false).run P w = .ok ((lookK l a).getD z) w := by
  obtain ⟨es, clock, hb, he⟩ := h
  obtain ⟨r, h1, h2, _⟩ := KMap.find (w := w) (b := b) K a he
  rw [← h2]
  cases r with
  | none => simp [Instr.lookup, run_underlying ht, MapKept.run_getObj_map hb, K.check, h1, hz, Result.andThen]
  | some r => simp [Instr.lookup, run_underlying ht, MapKept.run_getObj_map hb, K.check, h1, Result.andThen]

/-- The list behind a store. -/
def putK (l : List (α × Value)) (a : α) (v : Value) : List (α × Value) :=
  if (lookK l a).isSome then l.modify (l.findIdx fun p => decide (a = p.1)) (fun p => (p.1, v)) else l ++ [(a, v)]
theorem putK_new {l : List (α × Value)} {a : α} (v : Value) (h : lookK l a = none) : putK l a v = l ++ [(a, v)] := by simp [putK, h]

/-- 'm[k] = v', k a new key -/
theorem KMap.put {w : World} {b : Nat} {l : List (α × Value)} (h : KMap w b key l) (K : Kp P k key) (ht : P.underlying t = some (.map k e)) (a : α) (v : Value) (hn : lookK l a = none) :
    ∃ w', (Instr.mapUpdate t (.map (some b)) (key a) v).run P w = .ok () w' ∧ KMap w' b key (l ++ [(a, v)]) ∧ w.grownBy w' (some b) := by
  obtain ⟨es, clock, hb, he⟩ := h
  obtain ⟨r, h1, h2, _⟩ := KMap.find (w := w) (b := b) K a he
  rw [hn] at h2
  obtain rfl : r = none := by cases r <;> simp_all
  refine ⟨setBlock w b (.map (es.push { key := key a, val := v, born := clock }) (clock + 1)), by simp [Instr.mapUpdate, run_underlying ht, MapKept.run_getObj_map hb, K.check, h1, MapKept.run_setObj_map _ hb, Result.andThen, setBlock],
    ⟨_, _, heap_setBlock_same hb _, by simp [he]⟩, ⟨rfl, rfl, rfl, by simp [setBlock], fun i _ hi => heap_setBlock_other hb _ (fun e => hi (by rw [e]))⟩⟩
end

theorem wpList_lookup_run {P : Program} {w : World} {ops : Array Oper} {rest : List Oper} {o : Oper} {a : Act} {Q : Exit → Act → World → Prop} (hg : o.guard = none) (m x : Operand) (t : TypeId) (c : Bool) (hop : o.op = Op.lookup t m x c)
    (mv key v : Value) (hm : a.eval m = mv) (hx : a.eval x = key) (w' : World) (hrun : (Instr.lookup t mv key c).run P w = .ok v w') (h : wpList P ops Q rest (a.put o.dst v) w') : wpList P ops Q (o :: rest) a w := by
  refine wpList_plain hg fun K' hK' => ?_
  unfold Oper.wp
  simp [execOp, hop, hm, hx, hrun, Result.andThen]
  exact hK' _ _ h
theorem wpList_update_run {P : Program} {w : World} {ops : Array Oper} {rest : List Oper} {o : Oper} {a : Act} {Q : Exit → Act → World → Prop} (hg : o.guard = none) (m x v : Operand) (t : TypeId) (hop : o.op = Op.mapUpdate t m x v)
    (mv key val : Value) (hm : a.eval m = mv) (hx : a.eval x = key) (hv : a.eval v = val) (w' : World) (hrun : (Instr.mapUpdate t mv key val).run P w = .ok () w') (h : wpList P ops Q rest (a.put o.dst undef) w') : wpList P ops Q (o :: rest) a w := by
  refine wpList_plain hg fun K' hK' => ?_
  unfold Oper.wp
  simp [execOp, hop, hm, hx, hv, hrun, Result.andThen]
  exact hK' _ _ h
theorem wpList_insert_run {P : Program} {w : World} {ops : Array Oper} {rest : List Oper} {o : Oper} {a : Act} {Q : Exit → Act → World → Prop} (hg : o.guard = none) (m x v : Operand) (t : TypeId) (hop : o.op = Op.insert t m x v)
    (mv key val : Value) (hm : a.eval m = mv) (hx : a.eval x = key) (hv : a.eval v = val) (w' : World) (hrun : (Instr.mapUpdate t mv key val).run P w = .ok () w') (h : wpList P ops Q rest (a.put o.dst undef) w') : wpList P ops Q (o :: rest) a w := by
  refine wpList_plain hg fun K' hK' => ?_
  unfold Oper.wp
  simp [execOp, hop, hm, hx, hv, hrun, Result.andThen]
  exact hK' _ _ h
end Go.Proofs.YtkifhgnoadmfkaaDoor
namespace Go.Proofs.YtkifhgnoadmfkaaDoor
open Go.RowKit

def bnV (f : FuncId) (g : Nat) : Value := .func (.func f) #[.pointer (some ⟨g, 0, none⟩)] #[]
theorem zeroRd (w : World) : (zeroValue 49).run Tryd.prog w = .ok .nilFunc w := by kernel_rfl
def nxtMap (g : Nat) : List (Int × Value) := [(32, bnV 39 g), (40, bnV 40 g), (41, bnV 41 g), (34, bnV 42 g), (123, bnV 43 g)]

section
variable {w : World}
/-- The map of next, and what a look into it gives. -/
theorem nxt_map (w : World) (g : Nat) (x : Int) : ∃ w1 w2 w3 w4 w5, (Instr.mapUpdate 76 (.map (some w.heap.size)) (.int .u8 32) (bnV 39 g)).run Tryd.prog (w.alloc (.map #[] 0)) = .ok () w1 ∧
    (Instr.mapUpdate 76 (.map (some w.heap.size)) (.int .u8 40) (bnV 40 g)).run Tryd.prog w1 = .ok () w2 ∧
    (Instr.mapUpdate 76 (.map (some w.heap.size)) (.int .u8 41) (bnV 41 g)).run Tryd.prog w2 = .ok () w3 ∧
    (Instr.mapUpdate 76 (.map (some w.heap.size)) (.int .u8 34) (bnV 42 g)).run Tryd.prog w3 = .ok () w4 ∧
    (Instr.mapUpdate 76 (.map (some w.heap.size)) (.int .u8 123) (bnV 43 g)).run Tryd.prog w4 = .ok () w5 ∧ Below w.heap.size w w5 ∧
    (Instr.lookup 76 (.map (some w.heap.size)) (.int .u8 x) true).run Tryd.prog w5 = .ok (.tuple #[(lookK (nxtMap g) x).getD .nilFunc, .bool (lookK (nxtMap g) x).isSome]) w5 := by
  have K := Kp.int (P := Tryd.prog) Tryd.underlying5
  have hm0 : KMap (w.alloc (.map #[] 0)) w.heap.size (Value.int .u8) ([] : List (Int × Value)) := KMap.made w
  have hb0 : Below w.heap.size w (w.alloc (.map #[] 0)) := (Below.refl _ _).alloc (Nat.le_refl _) _
  obtain ⟨w1, hr1, hm1, hg1⟩ := hm0.put K Tryd.underlying76 (32 : Int) (bnV 39 g) (by decide)
  obtain ⟨w2, hr2, hm2, hg2⟩ := hm1.put K Tryd.underlying76 (40 : Int) (bnV 40 g) rfl
  obtain ⟨w3, hr3, hm3, hg3⟩ := hm2.put K Tryd.underlying76 (41 : Int) (bnV 41 g) rfl
  obtain ⟨w4, hr4, hm4, hg4⟩ := hm3.put K Tryd.underlying76 (34 : Int) (bnV 42 g) rfl
  obtain ⟨w5, hr5, hm5, hg5⟩ := hm4.put K Tryd.underlying76 (123 : Int) (bnV 43 g) rfl
  have hb1 := hb0.grown hg1 (by rw [World.size_alloc]; omega) (fun j hj => by injection hj with hj; omega)
  have hb2 := hb1.grown hg2 hb1.size (fun j hj => by injection hj with hj; omega)
  have hb3 := hb2.grown hg3 hb2.size (fun j hj => by injection hj with hj; omega)
  have hb4 := hb3.grown hg4 hb3.size (fun j hj => by injection hj with hj; omega)
  have hb5 := hb4.grown hg5 hb4.size (fun j hj => by injection hj with hj; omega)
  have hlk := hm5.look K Tryd.underlying76 (zeroRd w5) x
  exact ⟨w1, w2, w3, w4, w5, hr1, hr2, hr3, hr4, hr5, hb5, hlk⟩
end

set_option maxRecDepth 100000 in
theorem next_end (g : Nat) (P : Option Addr) (n c : Nat) (w : World) (h : RdSt w g P n c (n : Int)) (hn : n ≤ 1048576) :
    Calls Tryd.prog 23 #[.pointer (some ⟨g, 0, none⟩)] w (RdPost w g P n c 0 [] (n : Int) true (n : Int)) := by
  obtain ⟨c0, c1, f1, hlt⟩ := RdSt.cells h
  have H := Lib.hid h
  have hne : w.heap.size ≠ g := by omega
  clear h
  go_enter Tryd.func23, Tryd.ntmps23
  go_wp2_with fail
  refine bodyPost_ret (v := .tuple #[.agg #[.int .i64 0, .string ⟨#[]⟩, .int .i64 (n : Int)], .bool true]) (by simp [results, Tryd.results23, go_sem]) rfl
    ⟨rfl, Blk.past H.out _, World.grownBy_alloc _ _ _⟩

set_option maxRecDepth 100000 in
set_option maxHeartbeats 1600000 in
theorem next_read (F : FuncId) (kind : Nat) (text : List UInt8) (ok : Bool) (k' : Int) (g p o : Nat) (n c : Nat) (k : Nat) (x : Int) (w : World) (h : RdSt w g (some ⟨p, o, none⟩) n c (k : Int)) (hk : k < n) (hn : n ≤ 1048576) (hx : w.cell? ⟨p, o + k, none⟩ = some (.int .u8 x)) (hpg : p < g)
    (hF : ∀ args w, (callFunc F args).run Tryd.prog w = .ok (.enter F args) w) (hl : lookK (nxtMap g) x = some (bnV F g))
    (HF : ∀ W, RdSt W g (some ⟨p, o, none⟩) n c (k : Int) → Below w.heap.size w W → Calls Tryd.prog F #[.pointer (some ⟨g, 0, none⟩)] W (RdPost W g (some ⟨p, o, none⟩) n c kind text 0 ok k')) :
    Calls Tryd.prog 23 #[.pointer (some ⟨g, 0, none⟩)] w (RdPost w g (some ⟨p, o, none⟩) n c kind text (k : Int) ok k') := by
  obtain ⟨c0, c1, f1, hlt⟩ := RdSt.cells h
  have hmm := @run_makeMap Tryd.prog
  obtain ⟨w1, w2, w3, w4, w5, hr1, hr2, hr3, hr4, hr5, hb5, hlk⟩ := nxt_map (w.alloc (.cells #[.int .i64 0, .string ⟨#[]⟩, .int .i64 0] 36)) g x
  rw [hl] at hlk
  rw [World.size_alloc] at hr1 hr2 hr3 hr4 hr5 hlk
  simp only [bnV, Option.getD_some, Option.isSome_some] at hr1 hr2 hr3 hr4 hr5 hlk
  have hbw : Below w.heap.size w w5 := ((Below.refl _ _).alloc (Nat.le_refl _) _).trans (hb5.mono (by rw [World.size_alloc]; omega))
  have hbk : Blk w5 w.heap.size 36 #[.int .i64 0, .string ⟨#[]⟩, .int .i64 0] := (Blk.made w _ _).below hb5 (by rw [World.size_alloc]; omega)
  have hr0 := RdSt.below h hbw
  have hx5 : w5.cell? ⟨p, o + k, none⟩ = some (.int .u8 x) := by rw [hbw.cell (by show p < _; omega)]; exact hx
  obtain ⟨e0, e1, g1, _⟩ := RdSt.cells hr0
  have HC := Lib.hid (HF w5 hr0 hbw)
  have HH := Lib.hid (And.intro hbw (And.intro hbk hr0))
  have HR1 := Lib.hid hr1
  have HR2 := Lib.hid hr2
  have HR3 := Lib.hid hr3
  have HR4 := Lib.hid hr4
  have HR5 := Lib.hid hr5
  have HL := Lib.hid hlk
  have hne : w.heap.size ≠ g := by omega
  have hi0 : (0 : Int) ≤ k := by omega
  have hi1 : (k : Int) < n := by omega
  have hkn : ((k : Int) == n) = false := by rw [beq_eq_false_iff_ne]; omega
  have hs5 := Lib.hid hb5.size
  clear hr1 hr2 hr3 hr4 hr5 hlk hl HF hbk hr0 hbw hb5 hx h
  go_enter Tryd.func23, Tryd.ntmps23
  go_wp2_with fail
  rw [HR1.out]
  simp only [Result.andThen]
  rw [Oper.upon_skip]
  go_wp2_with fail
  rw [HR2.out]
  simp only [Result.andThen]
  rw [Oper.upon_skip]
  go_wp2_with fail
  rw [HR3.out]
  simp only [Result.andThen]
  rw [Oper.upon_skip]
  go_wp2_with fail
  rw [HR4.out]
  simp only [Result.andThen]
  rw [Oper.upon_skip]
  go_wp2_with fail
  rw [HR5.out]
  simp only [Result.andThen]
  rw [Oper.upon_skip]
  go_wp2_with fail
  rw [HL.out]
  simp only [Result.andThen]
  rw [Oper.upon_value]
  go_wp2_with fail
  refine HC.out.mono ?_
  rintro e w7 ⟨rfl, hr, hg⟩
  have hbk : Blk w7 w.heap.size 36 #[.int .i64 0, .string ⟨#[]⟩, .int .i64 0] := (hg.block w.heap.size (Blk.lt HH.out.2.1) (by simp only [ne_eq, Option.some.injEq]; exact hne)).trans HH.out.2.1
  have d0 : w7.cell? ⟨w.heap.size, 0, none⟩ = some (.int .i64 0) := by rw [hbk.cell]; rfl
  have d1 : w7.cell? ⟨w.heap.size, 1, none⟩ = some (.string ⟨#[]⟩) := by rw [hbk.cell]; rfl
  have d2 : w7.cell? ⟨w.heap.size, 2, none⟩ = some (.int .i64 0) := by rw [hbk.cell]; rfl
  have f0 := hbk.frz 0
  have f3 := hbk.frz 1
  have f2 := hbk.frz 2
  have hlt7 : w.heap.size < w7.heap.size := Blk.lt hbk
  have HH7 := Lib.hid (And.intro hr (And.intro (grown_trans (grown_of_below HH.out.1 (some g)) hg) hbk))
  clear hr hg hbk
  go_wp2_with fail
  have hput := (((HH7.out.2.2.put 0 (.int .i64 kind)).put 1 (.string (ofL text))).put 2 (.int .i64 (k : Int))).past (.cells #[.int .i64 kind, .string (ofL text), .int .i64 (k : Int)] 36)
  have z0 := hput.cell 0
  have z1 := hput.cell 1
  have z2 := hput.cell 2
  have hgw : g ≠ w.heap.size := fun e => hne e.symm
  refine bodyPost_ret (v := .tuple #[.agg #[.int .i64 kind, .string (ofL text), .int .i64 (k : Int)], .bool ok]) (by simp [results, Tryd.results23, go_sem, z0, z1, z2]) rfl
    ⟨rfl, Blk.past (((Blk.far HH7.out.1 (p := ⟨w.heap.size, 0, none⟩) hgw _).far (p := ⟨w.heap.size, 1, none⟩) hgw _).far (p := ⟨w.heap.size, 2, none⟩) hgw _) _, ?_⟩
  exact grown_trans (grown_new (grown_new (grown_new HH7.out.2.1 (Nat.le_refl _) _ _) (Nat.le_refl _) _ _) (Nat.le_refl _) _ _) (World.grownBy_alloc _ _ _)
set_option maxRecDepth 100000 in
set_option maxHeartbeats 1600000 in
theorem next_word (kind : Nat) (text : List UInt8) (ok : Bool) (k' : Int) (g p o : Nat) (n c : Nat) (k : Nat) (x : Int) (w : World) (h : RdSt w g (some ⟨p, o, none⟩) n c (k : Int)) (hk : k < n) (hn : n ≤ 1048576) (hx : w.cell? ⟨p, o + k, none⟩ = some (.int .u8 x)) (hpg : p < g)
    (hl : lookK (nxtMap g) x = none)
    (HF : ∀ W, RdSt W g (some ⟨p, o, none⟩) n c (k : Int) → Below w.heap.size w W → Calls Tryd.prog 44 #[.pointer (some ⟨g, 0, none⟩)] W (RdPost W g (some ⟨p, o, none⟩) n c kind text 0 ok k')) :
    Calls Tryd.prog 23 #[.pointer (some ⟨g, 0, none⟩)] w (RdPost w g (some ⟨p, o, none⟩) n c kind text (k : Int) ok k') := by
  obtain ⟨c0, c1, f1, hlt⟩ := RdSt.cells h
  have hmm := @run_makeMap Tryd.prog
  obtain ⟨w1, w2, w3, w4, w5, hr1, hr2, hr3, hr4, hr5, hb5, hlk⟩ := nxt_map (w.alloc (.cells #[.int .i64 0, .string ⟨#[]⟩, .int .i64 0] 36)) g x
  rw [hl] at hlk
  rw [World.size_alloc] at hr1 hr2 hr3 hr4 hr5 hlk
  simp only [bnV, Option.getD_none, Option.isSome_none] at hr1 hr2 hr3 hr4 hr5 hlk
  have hbw : Below w.heap.size w w5 := ((Below.refl _ _).alloc (Nat.le_refl _) _).trans (hb5.mono (by rw [World.size_alloc]; omega))
  have hbk : Blk w5 w.heap.size 36 #[.int .i64 0, .string ⟨#[]⟩, .int .i64 0] := (Blk.made w _ _).below hb5 (by rw [World.size_alloc]; omega)
  have hr0 := RdSt.below h hbw
  have hx5 : w5.cell? ⟨p, o + k, none⟩ = some (.int .u8 x) := by rw [hbw.cell (by show p < _; omega)]; exact hx
  obtain ⟨e0, e1, g1, _⟩ := RdSt.cells hr0
  have HC := Lib.hid (HF w5 hr0 hbw)
  have HH := Lib.hid (And.intro hbw (And.intro hbk hr0))
  have HR1 := Lib.hid hr1
  have HR2 := Lib.hid hr2
  have HR3 := Lib.hid hr3
  have HR4 := Lib.hid hr4
  have HR5 := Lib.hid hr5
  have HL := Lib.hid hlk
  have hne : w.heap.size ≠ g := by omega
  have hi0 : (0 : Int) ≤ k := by omega
  have hi1 : (k : Int) < n := by omega
  have hkn : ((k : Int) == n) = false := by rw [beq_eq_false_iff_ne]; omega
  have hs5 := Lib.hid hb5.size
  clear hr1 hr2 hr3 hr4 hr5 hlk hl HF hbk hr0 hbw hb5 hx h
  go_enter Tryd.func23, Tryd.ntmps23
  go_wp2_with fail
  rw [HR1.out]
  simp only [Result.andThen]
  rw [Oper.upon_skip]
  go_wp2_with fail
  rw [HR2.out]
  simp only [Result.andThen]
  rw [Oper.upon_skip]
  go_wp2_with fail
  rw [HR3.out]
  simp only [Result.andThen]
  rw [Oper.upon_skip]
  go_wp2_with fail
  rw [HR4.out]
  simp only [Result.andThen]
  rw [Oper.upon_skip]
  go_wp2_with fail
  rw [HR5.out]
  simp only [Result.andThen]
  rw [Oper.upon_skip]
  go_wp2_with fail
  rw [HL.out]
  simp only [Result.andThen]
  rw [Oper.upon_value]
  go_wp2_with fail
  refine HC.out.mono ?_
  rintro e w7 ⟨rfl, hr, hg⟩
  have hbk : Blk w7 w.heap.size 36 #[.int .i64 0, .string ⟨#[]⟩, .int .i64 0] := (hg.block w.heap.size (Blk.lt HH.out.2.1) (by simp only [ne_eq, Option.some.injEq]; exact hne)).trans HH.out.2.1
  have d0 : w7.cell? ⟨w.heap.size, 0, none⟩ = some (.int .i64 0) := by rw [hbk.cell]; rfl
  have d1 : w7.cell? ⟨w.heap.size, 1, none⟩ = some (.string ⟨#[]⟩) := by rw [hbk.cell]; rfl
  have d2 : w7.cell? ⟨w.heap.size, 2, none⟩ = some (.int .i64 0) := by rw [hbk.cell]; rfl
  have f0 := hbk.frz 0
  have f3 := hbk.frz 1
  have f2 := hbk.frz 2
  have hlt7 : w.heap.size < w7.heap.size := Blk.lt hbk
  have HH7 := Lib.hid (And.intro hr (And.intro (grown_trans (grown_of_below HH.out.1 (some g)) hg) hbk))
  clear hr hg hbk
  go_wp2_with fail
  have hput := (((HH7.out.2.2.put 0 (.int .i64 kind)).put 1 (.string (ofL text))).put 2 (.int .i64 (k : Int))).past (.cells #[.int .i64 kind, .string (ofL text), .int .i64 (k : Int)] 36)
  have z0 := hput.cell 0
  have z1 := hput.cell 1
  have z2 := hput.cell 2
  have hgw : g ≠ w.heap.size := fun e => hne e.symm
  refine bodyPost_ret (v := .tuple #[.agg #[.int .i64 kind, .string (ofL text), .int .i64 (k : Int)], .bool ok]) (by simp [results, Tryd.results23, go_sem, z0, z1, z2]) rfl
    ⟨rfl, Blk.past (((Blk.far HH7.out.1 (p := ⟨w.heap.size, 0, none⟩) hgw _).far (p := ⟨w.heap.size, 1, none⟩) hgw _).far (p := ⟨w.heap.size, 2, none⟩) hgw _) _, ?_⟩
  exact grown_trans (grown_new (grown_new (grown_new HH7.out.2.1 (Nat.le_refl _) _ _) (Nat.le_refl _) _ _) (Nat.le_refl _) _ _) (World.grownBy_alloc _ _ _)

/-- What a look into the map gives. -/
theorem look_nxt (g : Nat) (x : UInt8) : (x = 32 ∧ lookK (nxtMap g) (x.toNat : Int) = some (bnV 39 g)) ∨ (x = 40 ∧ lookK (nxtMap g) (x.toNat : Int) = some (bnV 40 g)) ∨
    (x = 41 ∧ lookK (nxtMap g) (x.toNat : Int) = some (bnV 41 g)) ∨ (x = 34 ∧ lookK (nxtMap g) (x.toNat : Int) = some (bnV 42 g)) ∨
    (x = 123 ∧ lookK (nxtMap g) (x.toNat : Int) = some (bnV 43 g)) ∨ ((x ≠ 32 ∧ x ≠ 40 ∧ x ≠ 41 ∧ x ≠ 34 ∧ x ≠ 123) ∧ lookK (nxtMap g) (x.toNat : Int) = none) := by
  have hn : ∀ v : UInt8, x ≠ v → ¬ ((x.toNat : Int) = (v.toNat : Int)) := fun v h e => h (UInt8.toNat_inj.1 (by omega))
  by_cases h1 : x = 32
  · exact .inl ⟨h1, by subst h1; rfl⟩
  by_cases h2 : x = 40
  · exact .inr (.inl ⟨h2, by subst h2; rfl⟩)
  by_cases h3 : x = 41
  · exact .inr (.inr (.inl ⟨h3, by subst h3; rfl⟩))
  by_cases h4 : x = 34
  · exact .inr (.inr (.inr (.inl ⟨h4, by subst h4; rfl⟩)))
  by_cases h5 : x = 123
  · exact .inr (.inr (.inr (.inr (.inl ⟨h5, by subst h5; rfl⟩))))
  · refine .inr (.inr (.inr (.inr (.inr ⟨⟨h1, h2, h3, h4, h5⟩, ?_⟩))))
    have e1 : ¬ ((x.toNat : Int) = 32) := hn 32 h1
    have e2 : ¬ ((x.toNat : Int) = 40) := hn 40 h2
    have e3 : ¬ ((x.toNat : Int) = 41) := hn 41 h3
    have e4 : ¬ ((x.toNat : Int) = 34) := hn 34 h4
    have e5 : ¬ ((x.toNat : Int) = 123) := hn 123 h5
    simp [lookK, nxtMap, e1, e2, e3, e4, e5]
/-- What next hands back and leaves. -/
def NxPost (w : World) (g : Nat) (P : Option Addr) (n c : Nat) (k : Nat) (o : Option (Tok × Nat)) (e : Ending) (w' : World) : Prop :=
  ∃ kind text k', RdPost w g P n c kind text (k : Int) o.isSome k' e w' ∧ ∀ t j, o = some (t, j) → kind = t.kind ∧ text = t.text ∧ k' = (j : Int)
end Go.Proofs.YtkifhgnoadmfkaaDoor
namespace Go.Proofs.YtkifhgnoadmfkaaDoor
open Go.RowKit

set_option maxRecDepth 100000 in
theorem next_any (g : Nat) (P : Option Addr) (l : List UInt8) (c : Nat) (k : Nat) (w : World) (h : RdSt w g P l.length c k) (hk : k ≤ l.length) (hy : Bys w g P l) (hl : l.length ≤ 1048576) (hlc : l.length ≤ c) (hS : Std w) :
    Calls Tryd.prog 23 #[.pointer (some ⟨g, 0, none⟩)] w (NxPost w g P l.length c k (nextT l k)) := by
  rcases Nat.lt_or_ge k l.length with hk2 | hk2
  · obtain ⟨p, o, rfl, hpg, hc⟩ := hy (by omega)
    have hx := hc k hk2
    have hyW : ∀ W, Below w.heap.size w W → Bys W g (some ⟨p, o, none⟩) l := fun W hb => hy.belowle hb (Nat.le_of_lt (Blk.lt h))
    rw [nextT_at hk2]
    have fin : ∀ (kind : Nat) (text : List UInt8) (ok : Bool) (k' : Int) (q : Option (Tok × Nat)), q.isSome = ok → (∀ t j, q = some (t, j) → kind = t.kind ∧ text = t.text ∧ k' = (j : Int)) →
        ∀ e w', RdPost w g (some ⟨p, o, none⟩) l.length c kind text (k : Int) ok k' e w' → NxPost w g (some ⟨p, o, none⟩) l.length c k q e w' := fun kind text ok k' q h1 h2 e w' hp => ⟨kind, text, k', by rw [h1]; exact hp, h2⟩
    rcases look_nxt g l[k] with ⟨hv, hm⟩ | ⟨hv, hm⟩ | ⟨hv, hm⟩ | ⟨hv, hm⟩ | ⟨hv, hm⟩ | ⟨⟨q1, q2, q3, q4, q5⟩, hm⟩
    · rw [if_pos hv]
      refine (next_read _ 1 [] true ((k : Int) + 1) g p o l.length c k _ w h hk2 hl hx hpg (fun _ _ => rfl) hm (fun W hr hb => space_any g _ _ c k W hr (by omega))).mono (fin _ _ _ _ _ rfl ?_)
      intro t j e
      injection e with e; injection e with e1 e2
      subst e1 e2
      exact ⟨rfl, rfl, by omega⟩
    · rw [if_neg (by rw [hv]; decide), if_pos hv]
      refine (next_read _ 2 [] true ((k : Int) + 1) g p o l.length c k _ w h hk2 hl hx hpg (fun _ _ => rfl) hm (fun W hr hb => opn_any g _ _ c k W hr (by omega))).mono (fin _ _ _ _ _ rfl ?_)
      intro t j e
      injection e with e; injection e with e1 e2
      subst e1 e2
      exact ⟨rfl, rfl, by omega⟩
    · rw [if_neg (by rw [hv]; decide), if_neg (by rw [hv]; decide), if_pos hv]
      refine (next_read _ 3 [] true ((k : Int) + 1) g p o l.length c k _ w h hk2 hl hx hpg (fun _ _ => rfl) hm (fun W hr hb => cls_any g _ _ c k W hr (by omega))).mono (fin _ _ _ _ _ rfl ?_)
      intro t j e
      injection e with e; injection e with e1 e2
      subst e1 e2
      exact ⟨rfl, rfl, by omega⟩
    · rw [if_neg (by rw [hv]; decide), if_neg (by rw [hv]; decide), if_neg (by rw [hv]; decide), if_pos hv]
      refine (next_read _ 5 _ _ _ g p o l.length c k _ w h hk2 hl hx hpg (fun _ _ => rfl) hm (fun W hr hb => rquoted_any g _ l c k W hr (by omega) (hyW W hb) hl)).mono (fin _ _ _ _ _ (by rw [Option.isSome_map]) ?_)
      intro t j e
      rw [Option.map_eq_some_iff] at e
      obtain ⟨x, hx, e⟩ := e
      injection e with e1 e2
      subst e1 e2
      rw [hx]
      exact ⟨rfl, rfl, rfl⟩
    · rw [if_neg (by rw [hv]; decide), if_neg (by rw [hv]; decide), if_neg (by rw [hv]; decide), if_neg (by rw [hv]; decide), if_pos hv]
      refine (next_read _ 6 _ _ _ g p o l.length c k _ w h hk2 hl hx hpg (fun _ _ => rfl) hm (fun W hr hb => rliteral_any g _ l c k W hr (by omega) (hyW W hb) hl hlc (hS.below hb))).mono (fin _ _ _ _ _ (by rw [Option.isSome_map]) ?_)
      intro t j e
      rw [Option.map_eq_some_iff] at e
      obtain ⟨x, hx, e⟩ := e
      injection e with e1 e2
      subst e1 e2
      rw [hx]
      exact ⟨rfl, rfl, rfl⟩
    · rw [if_neg q1, if_neg q2, if_neg q3, if_neg q4, if_neg q5]
      refine (next_word 4 _ _ _ g p o l.length c k _ w h hk2 hl hx hpg hm (fun W hr hb => word_any g _ l c k W hr hk (hyW W hb) hl hlc)).mono (fin _ _ _ _ _ ?_ ?_)
      · by_cases hw : wordB l[k] = true
        · have hd := wd_len hk2 hw
          rw [if_pos hw, decide_eq_true hd.1]; rfl
        · rw [if_neg hw]
          have : ((l.drop k).takeWhile wordB).length = 0 := by
            rw [List.drop_eq_getElem_cons hk2]
            simp [List.takeWhile, hw]
          rw [decide_eq_false (by omega)]; rfl
      · intro t j e
        split at e
        · injection e with e; injection e with e1 e2
          subst e1 e2
          exact ⟨rfl, rfl, by omega⟩
        · cases e
  · obtain rfl : k = l.length := by omega
    rw [nextT_end]
    refine (next_end g P l.length c w h hl).mono fun e w' hp => ⟨0, [], _, hp, ?_⟩
    intro t j e
    injection e with e; injection e with e1 e2
    subst e1 e2
    exact ⟨rfl, rfl, rfl⟩
end Go.Proofs.YtkifhgnoadmfkaaDoor
