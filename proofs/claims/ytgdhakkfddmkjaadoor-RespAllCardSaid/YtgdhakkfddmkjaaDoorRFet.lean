/- The walk of fetched's fields: the items copied. -/
import Derived.Deep.RegionHeld3
import Derived.Test.YtgdhakkfddmkjaaDoorJ6
import Derived.Deep.RegionWith
set_option linter.unusedVariables false
set_option linter.unusedSimpArgs false
namespace Go.Proofs.YtgdhakkfddmkjaaDoor
open Go.RowKit

def orI (x : Int) (b : Bool) (m : Int) : Int := if b then bits .or .i64 x m else x
def selI (b : Bool) (x : Int) : Int := if b then x else 0
def selA (b : Bool) (P : Option Addr) : Option Addr := if b then P else none
def selN (b : Bool) (n : Nat) : Nat := if b then n else 0
/-- The cells of what is collected. -/
def outC (k n i f u s : Int) (v : Value) : Array Value := #[.int .i64 k, .int .u32 n, .string ⟨#[]⟩, .int .i64 0, .string ⟨#[]⟩, .int .i64 i, .int .u8 f, .int .u32 u, .int .u32 s, v]
def okF (x fl : Int) (bl : Nat) : Bool := (x != 0) && (decide (fl ≤ 31) && decide ((bl : Int) ≤ 65536))
/-- What stands in memory while the items are looked through: the response, what is collected, the items. -/
def FtSt (w : World) (gr go gp gz : Nat) (rc oc : Array Value) (wr : World) : Prop :=
  Blk wr gr 26 rc ∧ Blk wr go 26 oc ∧ Blk wr gp 65 prtC ∧ Blk wr gz 26 #[.int .i64 0, .int .u32 0, .string ⟨#[]⟩, .int .i64 0, .string ⟨#[]⟩, .int .i64 0, .int .u8 0, .int .u32 0, .int .u32 0, .slice none 0 0] ∧ Below w.heap.size w wr
theorem FtSt.past {w wr : World} {gr go gp gz : Nat} {rc oc : Array Value} (h : FtSt w gr go gp gz rc oc wr) (o : Obj) : FtSt w gr go gp gz rc oc (wr.alloc o) :=
  ⟨h.1.past o, h.2.1.past o, h.2.2.1.past o, h.2.2.2.1.past o, h.2.2.2.2.alloc h.2.2.2.2.size o⟩
theorem FtSt.put {w wr : World} {gr go gp gz : Nat} {rc oc : Array Value} (h : FtSt w gr go gp gz rc oc wr) (h1 : gr ≠ go) (h2 : gp ≠ go) (h4 : gz ≠ go) (h3 : w.heap.size ≤ go) (i : Nat) (v : Value) : FtSt w gr go gp gz rc (oc.setIfInBounds i v) (wr.setCell ⟨go, i, none⟩ v) :=
  ⟨h.1.far h1 v, h.2.1.put i v, h.2.2.1.far h2 v, h.2.2.2.1.far h4 v, h.2.2.2.2.setCell h3 v⟩
theorem FtSt.grown {w wr w' : World} {gr go gp gz : Nat} {rc oc oc' : Array Value} (h : FtSt w gr go gp gz rc oc wr) (h1 : gr ≠ go) (h2 : gp ≠ go) (h4 : gz ≠ go) (h3 : w.heap.size ≤ go) (hg : wr.grownBy w' (some go)) (hb : Blk w' go 26 oc') : FtSt w gr go gp gz rc oc' w' :=
  ⟨h.1.grown hg (fun e => h1 (by injection e)), hb, h.2.2.1.grown hg (fun e => h2 (by injection e)), h.2.2.2.1.grown hg (fun e => h4 (by injection e)), below_grow h.2.2.2.2 hg h.2.2.2.2.size h3⟩

theorem ft_keep {W : World} {g1 g2 : Nat} {k n st it fl ui sz x fx ux sx : Int} {tg tx : ByteArray} {P px : Option Addr} {bl c bx cx : Nat} (h1 : Blk W g1 26 (outC 0 n x fx ux sx (.slice px bx cx))) (h2 : Blk W g2 26 #[.int .i64 k, .int .u32 n, .string tg, .int .i64 st, .string tx, .int .i64 it, .int .u8 fl, .int .u32 ui, .int .u32 sz, .slice P bl c]) :
    (W.cell? ⟨g1, 0, none⟩ = some (.int .i64 0) ∧ W.cell? ⟨g1, 1, none⟩ = some (.int .u32 n) ∧ W.cell? ⟨g1, 2, none⟩ = some (.string ⟨#[]⟩) ∧ W.cell? ⟨g1, 3, none⟩ = some (.int .i64 0) ∧ W.cell? ⟨g1, 4, none⟩ = some (.string ⟨#[]⟩) ∧ W.cell? ⟨g1, 5, none⟩ = some (.int .i64 x) ∧ W.cell? ⟨g1, 6, none⟩ = some (.int .u8 fx) ∧ W.cell? ⟨g1, 7, none⟩ = some (.int .u32 ux) ∧ W.cell? ⟨g1, 8, none⟩ = some (.int .u32 sx) ∧ W.cell? ⟨g1, 9, none⟩ = some (.slice px bx cx)) ∧ W.cell? ⟨g2, 6, none⟩ = some (.int .u8 fl) ∧ W.cell? ⟨g2, 9, none⟩ = some (.slice P bl c) :=
  ⟨(Blk.ten h1).1, (Blk.ten h2).1.2.2.2.2.2.2.1, (Blk.ten h2).1.2.2.2.2.2.2.2.2.2⟩

set_option maxRecDepth 100000 in
set_option maxHeartbeats 12800000 in
theorem fetched2_any (k n st it fl ui sz : Int) (tg tx : ByteArray) (P : Option Addr) (bl c : Nat) (w : World) (b1 b2 b4 b16 : Bool) (h1 : (bits .and .i64 it 1 != 0) = b1) (h2 : (bits .and .i64 it 2 != 0) = b2) (h4 : (bits .and .i64 it 4 != 0) = b4) (h16 : (bits .and .i64 it 16 != 0) = b16) :
    Calls Tryd.prog 62 #[.agg #[.int .i64 k, .int .u32 n, .string tg, .int .i64 st, .string tx, .int .i64 it, .int .u8 fl, .int .u32 ui, .int .u32 sz, .slice P bl c]] w fun e w' => e = .returned (.tuple #[.agg (outC 0 n (orI (orI (orI (orI 0 b1 1) b2 2) b4 4) b16 16) (selI b1 fl) (selI b2 ui) (selI b4 sz) (.slice (selA b16 P) (selN b16 bl) (selN b16 c))), .bool (okF (orI (orI (orI (orI 0 b1 1) b2 2) b4 4) b16 16) fl bl)]) ∧ Below w.heap.size w w' := by
  have HP := Lib.hid parts_any
  have Hb1 := Lib.hid h1
  have Hb2 := Lib.hid h2
  have Hb4 := Lib.hid h4
  have Hb16 := Lib.hid h16
  clear h1 h2 h4 h16
  go_enter Tryd.func62, Tryd.ntmps62
  go_wp2_with fail
  refine (HP.out _).mono ?_
  rintro e w1 ⟨rfl, hp, hb⟩
  have HF : Hid (FtSt w w.heap.size (w.heap.size + 1 + 1) (w.heap.size + 1 + 1 + 1) (w.heap.size + 1) #[.int .i64 k, .int .u32 n, .string tg, .int .i64 st, .string tx, .int .i64 it, .int .u8 fl, .int .u32 ui, .int .u32 sz, .slice P bl c] (outC 0 n 0 0 0 0 (.slice none 0 0)) w1) := Lib.hid ⟨Blk.below (Blk.past (Blk.past (Blk.made _ _ _) _) _) hb (by simp only [World.size_alloc]; omega), Blk.below (by have := Blk.made ((w.alloc (.cells #[.int .i64 k, .int .u32 n, .string tg, .int .i64 st, .string tx, .int .i64 it, .int .u8 fl, .int .u32 ui, .int .u32 sz, .slice P bl c] 26)).alloc (.cells #[.int .i64 0, .int .u32 0, .string ⟨#[]⟩, .int .i64 0, .string ⟨#[]⟩, .int .i64 0, .int .u8 0, .int .u32 0, .int .u32 0, .slice none 0 0] 26)) 26 (outC 0 n 0 0 0 0 (.slice none 0 0)); simp only [World.size_alloc] at this; exact this) hb (by simp only [World.size_alloc]; omega), by simp only [World.size_alloc] at hp; exact hp, Blk.below (by have := Blk.made (w.alloc (.cells #[.int .i64 k, .int .u32 n, .string tg, .int .i64 st, .string tx, .int .i64 it, .int .u8 fl, .int .u32 ui, .int .u32 sz, .slice P bl c] 26)) 26 #[.int .i64 0, .int .u32 0, .string ⟨#[]⟩, .int .i64 0, .string ⟨#[]⟩, .int .i64 0, .int .u8 0, .int .u32 0, .int .u32 0, .slice none 0 0]; simp only [World.size_alloc] at this; exact this.past _) hb (by simp only [World.size_alloc]; omega), ((((Below.refl _ _).alloc (Nat.le_refl _) _).alloc (by simp only [World.size_alloc]; omega) _).alloc (by simp only [World.size_alloc]; omega) _).trans (hb.mono (by simp only [World.size_alloc]; omega))⟩
  clear hp hb
  go_wp2_with fail
  go_loopw [12] (fun i wr => (i = .int .i64 0 ∧ FtSt w w.heap.size (w.heap.size + 1 + 1) (w.heap.size + 1 + 1 + 1) (w.heap.size + 1) #[.int .i64 k, .int .u32 n, .string tg, .int .i64 st, .string tx, .int .i64 it, .int .u8 fl, .int .u32 ui, .int .u32 sz, .slice P bl c] (outC 0 n 0 0 0 0 (.slice none 0 0)) wr) ∨ (i = .int .i64 1 ∧ FtSt w w.heap.size (w.heap.size + 1 + 1) (w.heap.size + 1 + 1 + 1) (w.heap.size + 1) #[.int .i64 k, .int .u32 n, .string tg, .int .i64 st, .string tx, .int .i64 it, .int .u8 fl, .int .u32 ui, .int .u32 sz, .slice P bl c] (outC 0 n (orI 0 b1 1) (selI b1 fl) 0 0 (.slice none 0 0)) wr) ∨ (i = .int .i64 2 ∧ FtSt w w.heap.size (w.heap.size + 1 + 1) (w.heap.size + 1 + 1 + 1) (w.heap.size + 1) #[.int .i64 k, .int .u32 n, .string tg, .int .i64 st, .string tx, .int .i64 it, .int .u8 fl, .int .u32 ui, .int .u32 sz, .slice P bl c] (outC 0 n (orI (orI 0 b1 1) b2 2) (selI b1 fl) (selI b2 ui) 0 (.slice none 0 0)) wr) ∨ (i = .int .i64 3 ∧ FtSt w w.heap.size (w.heap.size + 1 + 1) (w.heap.size + 1 + 1 + 1) (w.heap.size + 1) #[.int .i64 k, .int .u32 n, .string tg, .int .i64 st, .string tx, .int .i64 it, .int .u8 fl, .int .u32 ui, .int .u32 sz, .slice P bl c] (outC 0 n (orI (orI (orI 0 b1 1) b2 2) b4 4) (selI b1 fl) (selI b2 ui) (selI b4 sz) (.slice none 0 0)) wr) ∨ (i = .int .i64 4 ∧ FtSt w w.heap.size (w.heap.size + 1 + 1) (w.heap.size + 1 + 1 + 1) (w.heap.size + 1) #[.int .i64 k, .int .u32 n, .string tg, .int .i64 st, .string tx, .int .i64 it, .int .u8 fl, .int .u32 ui, .int .u32 sz, .slice P bl c] (outC 0 n (orI (orI (orI (orI 0 b1 1) b2 2) b4 4) b16 16) (selI b1 fl) (selI b2 ui) (selI b4 sz) (.slice (selA b16 P) (selN b16 bl) (selN b16 c))) wr)) (fun i _ => 4 - (intOf i).toNat)
  case atStart => exact .inl ⟨rfl, HF.out⟩
  case round =>
    rcases hrel with ⟨rfl, h⟩ | ⟨rfl, h⟩ | ⟨rfl, h⟩ | ⟨rfl, h⟩ | ⟨rfl, h⟩
    · have HB := Lib.hid h
      obtain ⟨q0, q1, q2⟩ := prt0 h.2.2.1
      obtain ⟨⟨c0, c1, c2, c3, c4, c5, c6, c7, c8, c9⟩, -⟩ := Blk.ten h.1
      have z5 : wr.cell? ⟨w.heap.size + 1 + 1, 5, none⟩ = some (.int .i64 0) := by rw [h.2.1.cell]; rfl
      have f5 := h.2.1.frz 5
      have hlt1 := h.1.lt
      have hlt2 := h.2.1.lt
      have hlt3 := h.2.2.1.lt
      clear h
      cases hb : b1 with
      | true =>
        rw [hb] at Hb1
        have hd := Hb1.out
        have HC := Lib.hid (copy0_any k n st it fl ui sz tg tx P bl c (w.heap.size + 1 + 1))
        go_wp2_with fail
        refine (HC.out ((outC 0 n 0 0 0 0 (.slice none 0 0)).setIfInBounds 5 (.int .i64 (bits .or .i64 0 1))) (.int .u8 0) _ ?blk0 rfl).mono ?_
        · first | exact (HB.out.2.1.put 5 _).past _ | exact (HB.out.2.1.past _).put 5 _
        rintro e w2 ⟨rfl, hk, hg⟩
        have HF : Hid (FtSt w w.heap.size (w.heap.size + 1 + 1) (w.heap.size + 1 + 1 + 1) (w.heap.size + 1) #[.int .i64 k, .int .u32 n, .string tg, .int .i64 st, .string tx, .int .i64 it, .int .u8 fl, .int .u32 ui, .int .u32 sz, .slice P bl c] (outC 0 n (orI 0 true 1) (selI true fl) 0 0 (.slice none 0 0)) w2) := Lib.hid (by
          skip
          first
          | exact (((HB.out.put (by omega) (by omega) (by omega) (by omega) 5 _).past _).grown (by omega) (by omega) (by omega) (by omega) hg hk)
          | exact (((HB.out.past _).put (by omega) (by omega) (by omega) (by omega) 5 _).grown (by omega) (by omega) (by omega) (by omega) hg hk))
        clear hk hg
        go_wp2_with fail
        go_roundw
        case rel => exact .inr (.inl ⟨rfl, HF.out⟩)
        case measure => simp [intOf]
      | false =>
        rw [hb] at Hb1
        have hd := Hb1.out
        go_wp2_with fail
        go_roundw
        case rel => exact .inr (.inl ⟨rfl, by exact HB.out.past _⟩)
        case measure => simp [intOf]
    · have HB := Lib.hid h
      obtain ⟨q0, q1, q2⟩ := prt1 h.2.2.1
      obtain ⟨⟨c0, c1, c2, c3, c4, c5, c6, c7, c8, c9⟩, -⟩ := Blk.ten h.1
      have z5 : wr.cell? ⟨w.heap.size + 1 + 1, 5, none⟩ = some (.int .i64 (orI 0 b1 1)) := by rw [h.2.1.cell]; rfl
      have f5 := h.2.1.frz 5
      have hlt1 := h.1.lt
      have hlt2 := h.2.1.lt
      have hlt3 := h.2.2.1.lt
      obtain ⟨x, hx⟩ : ∃ x : Int, x = (orI 0 b1 1) := ⟨_, rfl⟩
      rw [← hx] at z5
      have HX := Lib.hid hx
      clear hx
      clear h
      cases hb : b2 with
      | true =>
        rw [hb] at Hb2
        have hd := Hb2.out
        have HC := Lib.hid (copy1_any k n st it fl ui sz tg tx P bl c (w.heap.size + 1 + 1))
        go_wp2_with fail
        refine (HC.out ((outC 0 n (orI 0 b1 1) (selI b1 fl) 0 0 (.slice none 0 0)).setIfInBounds 5 (.int .i64 (bits .or .i64 x 2))) (.int .u32 0) _ ?blk1 rfl).mono ?_
        · first | exact (HB.out.2.1.put 5 _).past _ | exact (HB.out.2.1.past _).put 5 _
        rintro e w2 ⟨rfl, hk, hg⟩
        have HF : Hid (FtSt w w.heap.size (w.heap.size + 1 + 1) (w.heap.size + 1 + 1 + 1) (w.heap.size + 1) #[.int .i64 k, .int .u32 n, .string tg, .int .i64 st, .string tx, .int .i64 it, .int .u8 fl, .int .u32 ui, .int .u32 sz, .slice P bl c] (outC 0 n (orI (orI 0 b1 1) true 2) (selI b1 fl) (selI true ui) 0 (.slice none 0 0)) w2) := Lib.hid (by
          obtain rfl := HX.out
          first
          | exact (((HB.out.put (by omega) (by omega) (by omega) (by omega) 5 _).past _).grown (by omega) (by omega) (by omega) (by omega) hg hk)
          | exact (((HB.out.past _).put (by omega) (by omega) (by omega) (by omega) 5 _).grown (by omega) (by omega) (by omega) (by omega) hg hk))
        clear hk hg
        go_wp2_with fail
        go_roundw
        case rel => exact .inr (.inr (.inl ⟨rfl, HF.out⟩))
        case measure => simp [intOf]
      | false =>
        rw [hb] at Hb2
        have hd := Hb2.out
        go_wp2_with fail
        go_roundw
        case rel => exact .inr (.inr (.inl ⟨rfl, by obtain rfl := HX.out; exact HB.out.past _⟩))
        case measure => simp [intOf]
    · have HB := Lib.hid h
      obtain ⟨q0, q1, q2⟩ := prt2 h.2.2.1
      obtain ⟨⟨c0, c1, c2, c3, c4, c5, c6, c7, c8, c9⟩, -⟩ := Blk.ten h.1
      have z5 : wr.cell? ⟨w.heap.size + 1 + 1, 5, none⟩ = some (.int .i64 (orI (orI 0 b1 1) b2 2)) := by rw [h.2.1.cell]; rfl
      have f5 := h.2.1.frz 5
      have hlt1 := h.1.lt
      have hlt2 := h.2.1.lt
      have hlt3 := h.2.2.1.lt
      obtain ⟨x, hx⟩ : ∃ x : Int, x = (orI (orI 0 b1 1) b2 2) := ⟨_, rfl⟩
      rw [← hx] at z5
      have HX := Lib.hid hx
      clear hx
      clear h
      cases hb : b4 with
      | true =>
        rw [hb] at Hb4
        have hd := Hb4.out
        have HC := Lib.hid (copy2_any k n st it fl ui sz tg tx P bl c (w.heap.size + 1 + 1))
        go_wp2_with fail
        refine (HC.out ((outC 0 n (orI (orI 0 b1 1) b2 2) (selI b1 fl) (selI b2 ui) 0 (.slice none 0 0)).setIfInBounds 5 (.int .i64 (bits .or .i64 x 4))) (.int .u32 0) _ ?blk2 rfl).mono ?_
        · first | exact (HB.out.2.1.put 5 _).past _ | exact (HB.out.2.1.past _).put 5 _
        rintro e w2 ⟨rfl, hk, hg⟩
        have HF : Hid (FtSt w w.heap.size (w.heap.size + 1 + 1) (w.heap.size + 1 + 1 + 1) (w.heap.size + 1) #[.int .i64 k, .int .u32 n, .string tg, .int .i64 st, .string tx, .int .i64 it, .int .u8 fl, .int .u32 ui, .int .u32 sz, .slice P bl c] (outC 0 n (orI (orI (orI 0 b1 1) b2 2) true 4) (selI b1 fl) (selI b2 ui) (selI true sz) (.slice none 0 0)) w2) := Lib.hid (by
          obtain rfl := HX.out
          first
          | exact (((HB.out.put (by omega) (by omega) (by omega) (by omega) 5 _).past _).grown (by omega) (by omega) (by omega) (by omega) hg hk)
          | exact (((HB.out.past _).put (by omega) (by omega) (by omega) (by omega) 5 _).grown (by omega) (by omega) (by omega) (by omega) hg hk))
        clear hk hg
        go_wp2_with fail
        go_roundw
        case rel => exact .inr (.inr (.inr (.inl ⟨rfl, HF.out⟩)))
        case measure => simp [intOf]
      | false =>
        rw [hb] at Hb4
        have hd := Hb4.out
        go_wp2_with fail
        go_roundw
        case rel => exact .inr (.inr (.inr (.inl ⟨rfl, by obtain rfl := HX.out; exact HB.out.past _⟩)))
        case measure => simp [intOf]
    · have HB := Lib.hid h
      obtain ⟨q0, q1, q2⟩ := prt3 h.2.2.1
      obtain ⟨⟨c0, c1, c2, c3, c4, c5, c6, c7, c8, c9⟩, -⟩ := Blk.ten h.1
      have z5 : wr.cell? ⟨w.heap.size + 1 + 1, 5, none⟩ = some (.int .i64 (orI (orI (orI 0 b1 1) b2 2) b4 4)) := by rw [h.2.1.cell]; rfl
      have f5 := h.2.1.frz 5
      have hlt1 := h.1.lt
      have hlt2 := h.2.1.lt
      have hlt3 := h.2.2.1.lt
      obtain ⟨x, hx⟩ : ∃ x : Int, x = (orI (orI (orI 0 b1 1) b2 2) b4 4) := ⟨_, rfl⟩
      rw [← hx] at z5
      have HX := Lib.hid hx
      clear hx
      clear h
      cases hb : b16 with
      | true =>
        rw [hb] at Hb16
        have hd := Hb16.out
        have HC := Lib.hid (copy3_any k n st it fl ui sz tg tx P bl c (w.heap.size + 1 + 1))
        go_wp2_with fail
        refine (HC.out ((outC 0 n (orI (orI (orI 0 b1 1) b2 2) b4 4) (selI b1 fl) (selI b2 ui) (selI b4 sz) (.slice none 0 0)).setIfInBounds 5 (.int .i64 (bits .or .i64 x 16))) (.slice none 0 0) _ ?blk3 rfl).mono ?_
        · first | exact (HB.out.2.1.put 5 _).past _ | exact (HB.out.2.1.past _).put 5 _
        rintro e w2 ⟨rfl, hk, hg⟩
        have HF : Hid (FtSt w w.heap.size (w.heap.size + 1 + 1) (w.heap.size + 1 + 1 + 1) (w.heap.size + 1) #[.int .i64 k, .int .u32 n, .string tg, .int .i64 st, .string tx, .int .i64 it, .int .u8 fl, .int .u32 ui, .int .u32 sz, .slice P bl c] (outC 0 n (orI (orI (orI (orI 0 b1 1) b2 2) b4 4) true 16) (selI b1 fl) (selI b2 ui) (selI b4 sz) (.slice (selA true P) (selN true bl) (selN true c))) w2) := Lib.hid (by
          obtain rfl := HX.out
          first
          | exact (((HB.out.put (by omega) (by omega) (by omega) (by omega) 5 _).past _).grown (by omega) (by omega) (by omega) (by omega) hg hk)
          | exact (((HB.out.past _).put (by omega) (by omega) (by omega) (by omega) 5 _).grown (by omega) (by omega) (by omega) (by omega) hg hk))
        clear hk hg
        go_wp2_with fail
        go_roundw
        case rel => exact .inr (.inr (.inr (.inr (⟨rfl, HF.out⟩))))
        case measure => simp [intOf]
      | false =>
        rw [hb] at Hb16
        have hd := Hb16.out
        go_wp2_with fail
        go_roundw
        case rel => exact .inr (.inr (.inr (.inr (⟨rfl, by obtain rfl := HX.out; exact HB.out.past _⟩))))
        case measure => simp [intOf]
    · have HB := Lib.hid h
      obtain ⟨⟨c0, c1, c2, c3, c4, c5, c6, c7, c8, c9⟩, -⟩ := Blk.ten h.1
      obtain ⟨x, hx⟩ : ∃ x : Int, x = (orI (orI (orI (orI 0 b1 1) b2 2) b4 4) b16 16) := ⟨_, rfl⟩
      obtain ⟨fx, hfx⟩ : ∃ x : Int, x = selI b1 fl := ⟨_, rfl⟩
      obtain ⟨ux, hux⟩ : ∃ x : Int, x = selI b2 ui := ⟨_, rfl⟩
      obtain ⟨sx, hsx⟩ : ∃ x : Int, x = selI b4 sz := ⟨_, rfl⟩
      obtain ⟨px, hpx⟩ : ∃ x : Option Addr, x = selA b16 P := ⟨_, rfl⟩
      obtain ⟨bx, hbx⟩ : ∃ x : Nat, x = selN b16 bl := ⟨_, rfl⟩
      obtain ⟨cx, hcx⟩ : ∃ x : Nat, x = selN b16 c := ⟨_, rfl⟩
      have hQ : Blk wr (w.heap.size + 1 + 1) 26 (outC 0 n x fx ux sx (.slice px bx cx)) := by rw [hx, hfx, hux, hsx, hpx, hbx, hcx]; exact h.2.1
      have HE := Lib.hid (And.intro hx (And.intro hfx (And.intro hux (And.intro hsx (And.intro hpx (And.intro hbx hcx))))))
      obtain ⟨⟨d0, d1, d2, d3, d4, d5, d6, d7, d8, d9⟩, -⟩ := Blk.ten hQ
      have hR : Blk wr w.heap.size 26 #[.int .i64 k, .int .u32 n, .string tg, .int .i64 st, .string tx, .int .i64 it, .int .u8 fl, .int .u32 ui, .int .u32 sz, .slice P bl c] := h.1
      clear hx hfx hux hsx hpx hbx hcx
      obtain ⟨⟨z0, z1, z2, z3, z4, z5, z6, z7, z8, z9⟩, f0, f1, f2, f3, f4, f5, f6, f7, f8, f9⟩ := Blk.ten h.2.2.2.1
      have hlt1 := h.1.lt
      have hlt2 := h.2.1.lt
      have hlt3 := h.2.2.1.lt
      clear h
      cases hx0 : (x != 0) with
      | false =>
        have HOK : Hid (okF x fl bl = false) := Lib.hid (by unfold okF; rw [hx0]; rfl)
        go_wp2_with fail
        refine wp_region_noPanic ?_
        refine wp_region_held_drew (S := (fun W => (W.cell? ⟨w.heap.size + 1 + 1, 0, none⟩ = some (.int .i64 0) ∧ W.cell? ⟨w.heap.size + 1 + 1, 1, none⟩ = some (.int .u32 n) ∧ W.cell? ⟨w.heap.size + 1 + 1, 2, none⟩ = some (.string ⟨#[]⟩) ∧ W.cell? ⟨w.heap.size + 1 + 1, 3, none⟩ = some (.int .i64 0) ∧ W.cell? ⟨w.heap.size + 1 + 1, 4, none⟩ = some (.string ⟨#[]⟩) ∧ W.cell? ⟨w.heap.size + 1 + 1, 5, none⟩ = some (.int .i64 x) ∧ W.cell? ⟨w.heap.size + 1 + 1, 6, none⟩ = some (.int .u8 fx) ∧ W.cell? ⟨w.heap.size + 1 + 1, 7, none⟩ = some (.int .u32 ux) ∧ W.cell? ⟨w.heap.size + 1 + 1, 8, none⟩ = some (.int .u32 sx) ∧ W.cell? ⟨w.heap.size + 1 + 1, 9, none⟩ = some (.slice px bx cx)) ∧ W.cell? ⟨w.heap.size, 6, none⟩ = some (.int .u8 fl) ∧ W.cell? ⟨w.heap.size, 9, none⟩ = some (.slice P bl c))) (by kernel_rfl) ?_ (fun hHeldA => ?_)
        · first | (dsimp only; (refine ft_keep (k := k) (st := st) (it := it) (ui := ui) (sz := sz) (tg := tg) (tx := tx) ?_ ?_ <;> ((with_reducible refine Blk.drew ?_); (repeat (with_reducible refine Blk.far3 ?_ (by omega) _)); first | with_reducible exact hQ | with_reducible exact hR))) | (refine ft_keep (k := k) (st := st) (it := it) (ui := ui) (sz := sz) (tg := tg) (tx := tx) ?_ ?_ <;> ((with_reducible refine Blk.drew ?_); (repeat (with_reducible refine Blk.far3 ?_ (by omega) _)); first | with_reducible exact hQ | with_reducible exact hR))
        refine wpAnyH_take (i := 0) (v := ?_) rfl (by kernel_rfl) (by kernel_rfl) (by kernel_rfl) (fun _ _ _ h => h) (Or.inl ⟨by rfl, ?_⟩) (by assumption) ?_
        rotate_left
        · intro w hSw
          try dsimp only at hSw
          go_simp
          try with_reducible rfl
        try simp only [List.getElem_toArray, List.getElem_cons_zero, List.getElem_cons_succ, Act.put, List.setIfInBounds_toArray, List.set_cons_zero, List.set_cons_succ]
        refine wpAnyH_take (i := 1) (v := ?_) rfl (by kernel_rfl) (by kernel_rfl) (by kernel_rfl) (fun _ _ _ h => h) (Or.inl ⟨by rfl, ?_⟩) (by assumption) ?_
        rotate_left
        · intro w hSw
          try dsimp only at hSw
          go_simp
          try with_reducible rfl
        try simp only [List.getElem_toArray, List.getElem_cons_zero, List.getElem_cons_succ, Act.put, List.setIfInBounds_toArray, List.set_cons_zero, List.set_cons_succ]
        refine wpAnyH_take (i := 2) (v := ?_) rfl (by kernel_rfl) (by kernel_rfl) (by kernel_rfl) (fun _ _ _ h => h) (Or.inl ⟨by rfl, ?_⟩) (by assumption) ?_
        rotate_left
        · intro w hSw
          try dsimp only at hSw
          go_simp
          try with_reducible rfl
        try simp only [List.getElem_toArray, List.getElem_cons_zero, List.getElem_cons_succ, Act.put, List.setIfInBounds_toArray, List.set_cons_zero, List.set_cons_succ]
        refine wpAnyH_take (i := 3) (v := ?_) rfl (by kernel_rfl) (by kernel_rfl) (by kernel_rfl) (fun _ _ _ h => h) (Or.inl ⟨by rfl, ?_⟩) (by assumption) ?_
        rotate_left
        · intro w hSw
          try dsimp only at hSw
          go_simp
          try with_reducible rfl
        try simp only [List.getElem_toArray, List.getElem_cons_zero, List.getElem_cons_succ, Act.put, List.setIfInBounds_toArray, List.set_cons_zero, List.set_cons_succ]
        refine wpAnyH_take (i := 4) (v := ?_) rfl (by kernel_rfl) (by kernel_rfl) (by kernel_rfl) (fun _ _ _ h => h) (Or.inl ⟨by rfl, ?_⟩) (by assumption) ?_
        rotate_left
        · intro w hSw
          try dsimp only at hSw
          go_simp
          try with_reducible rfl
        try simp only [List.getElem_toArray, List.getElem_cons_zero, List.getElem_cons_succ, Act.put, List.setIfInBounds_toArray, List.set_cons_zero, List.set_cons_succ]
        refine wpAnyH_take (i := 5) (v := undef) rfl (by kernel_rfl) (by kernel_rfl) (by kernel_rfl) (fun _ _ _ h => h) (Or.inr ⟨by rfl, rfl⟩) (by assumption) ?_
        try simp only [List.getElem_toArray, List.getElem_cons_zero, List.getElem_cons_succ, Act.put, List.setIfInBounds_toArray, List.set_cons_zero, List.set_cons_succ]
        refine wpAnyH_take (i := 6) (v := undef) rfl (by kernel_rfl) (by kernel_rfl) (by kernel_rfl) (fun _ _ _ h => h) (Or.inr ⟨by rfl, rfl⟩) (by assumption) ?_
        try simp only [List.getElem_toArray, List.getElem_cons_zero, List.getElem_cons_succ, Act.put, List.setIfInBounds_toArray, List.set_cons_zero, List.set_cons_succ]
        refine wpAnyH_take (i := 7) (v := undef) rfl (by kernel_rfl) (by kernel_rfl) (by kernel_rfl) (fun _ _ _ h => h) (Or.inr ⟨by rfl, rfl⟩) (by assumption) ?_
        try simp only [List.getElem_toArray, List.getElem_cons_zero, List.getElem_cons_succ, Act.put, List.setIfInBounds_toArray, List.set_cons_zero, List.set_cons_succ]
        refine wpAnyH_take (i := 8) (v := ?_) rfl (by kernel_rfl) (by kernel_rfl) (by kernel_rfl) (fun _ _ _ h => h) (Or.inl ⟨by rfl, ?_⟩) (by assumption) ?_
        rotate_left
        · intro w hSw
          try dsimp only at hSw
          go_simp
          try with_reducible rfl
        try simp only [List.getElem_toArray, List.getElem_cons_zero, List.getElem_cons_succ, Act.put, List.setIfInBounds_toArray, List.set_cons_zero, List.set_cons_succ]
        refine wpAnyH_take (i := 9) (v := ?_) rfl (by kernel_rfl) (by kernel_rfl) (by kernel_rfl) (fun _ _ _ h => h) (Or.inl ⟨by rfl, ?_⟩) (by assumption) ?_
        rotate_left
        · intro w hSw
          try dsimp only at hSw
          go_simp
          try with_reducible rfl
        try simp only [List.getElem_toArray, List.getElem_cons_zero, List.getElem_cons_succ, Act.put, List.setIfInBounds_toArray, List.set_cons_zero, List.set_cons_succ]
        refine wpAnyH_take (i := 10) (v := undef) rfl (by kernel_rfl) (by kernel_rfl) (by kernel_rfl) (fun _ _ _ h => h) (Or.inr ⟨by rfl, rfl⟩) (by assumption) ?_
        try simp only [List.getElem_toArray, List.getElem_cons_zero, List.getElem_cons_succ, Act.put, List.setIfInBounds_toArray, List.set_cons_zero, List.set_cons_succ]
        refine wpAnyH_take (i := 11) (v := undef) rfl (by kernel_rfl) (by kernel_rfl) (by kernel_rfl) (fun _ _ _ h => h) (Or.inr ⟨by rfl, rfl⟩) (by assumption) ?_
        try simp only [List.getElem_toArray, List.getElem_cons_zero, List.getElem_cons_succ, Act.put, List.setIfInBounds_toArray, List.set_cons_zero, List.set_cons_succ]
        refine wpAnyH_take (i := 12) (v := undef) rfl (by kernel_rfl) (by kernel_rfl) (by kernel_rfl) (fun _ _ _ h => h) (Or.inr ⟨by rfl, rfl⟩) (by assumption) ?_
        try simp only [List.getElem_toArray, List.getElem_cons_zero, List.getElem_cons_succ, Act.put, List.setIfInBounds_toArray, List.set_cons_zero, List.set_cons_succ]
        refine wpAnyH_take (i := 13) (v := undef) rfl (by kernel_rfl) (by kernel_rfl) (by kernel_rfl) (fun _ _ _ h => h) (Or.inr ⟨by rfl, rfl⟩) (by assumption) ?_
        try simp only [List.getElem_toArray, List.getElem_cons_zero, List.getElem_cons_succ, Act.put, List.setIfInBounds_toArray, List.set_cons_zero, List.set_cons_succ]
        refine wpAnyH_take (i := 14) (v := ?_) rfl (by kernel_rfl) (by kernel_rfl) (by kernel_rfl) (fun _ _ _ h => h) (Or.inl ⟨by rfl, ?_⟩) (by assumption) ?_
        rotate_left
        · intro w hSw
          try dsimp only at hSw
          go_simp
          try with_reducible rfl
        try simp only [List.getElem_toArray, List.getElem_cons_zero, List.getElem_cons_succ, Act.put, List.setIfInBounds_toArray, List.set_cons_zero, List.set_cons_succ]
        refine wpAnyH_ready (rs := [15]) (by kernel_rfl) (by simp) ?_
        refine AllReadyH.cons rfl (fun K hK => ?_) (AllReadyH.nil)
        try simp only [List.getElem_toArray, List.getElem_cons_zero, List.getElem_cons_succ]
        go_simp
        first | (with_reducible refine hK.out _ _ ?_ (fun hHeldB => ?_)) | (go_wp2_with fail; refine hK.out _ _ ?_ (fun hHeldB => ?_))
        · first | (dsimp only; (refine ft_keep (k := k) (st := st) (it := it) (ui := ui) (sz := sz) (tg := tg) (tx := tx) ?_ ?_ <;> ((with_reducible refine Blk.drew ?_); (repeat (with_reducible refine Blk.far3 ?_ (by omega) _)); first | with_reducible exact hQ | with_reducible exact hR))) | (refine ft_keep (k := k) (st := st) (it := it) (ui := ui) (sz := sz) (tg := tg) (tx := tx) ?_ ?_ <;> ((with_reducible refine Blk.drew ?_); (repeat (with_reducible refine Blk.far3 ?_ (by omega) _)); first | with_reducible exact hQ | with_reducible exact hR))
        clear hK K hHeldA
        try simp only [Act.put, List.setIfInBounds_toArray, List.set_cons_zero, List.set_cons_succ]
        refine wpAnyH_take (i := 16) (v := ?_) rfl (by kernel_rfl) (by kernel_rfl) (by kernel_rfl) (fun _ _ _ h => h) (Or.inl ⟨by rfl, ?_⟩) (by assumption) ?_
        rotate_left
        · intro w hSw
          try dsimp only at hSw
          go_simp
          try with_reducible rfl
        try simp only [List.getElem_toArray, List.getElem_cons_zero, List.getElem_cons_succ, Act.put, List.setIfInBounds_toArray, List.set_cons_zero, List.set_cons_succ]
        refine wpAnyH_done (by kernel_rfl) ?_ _
        refine NoPanic.normal ?_
        go_wp2_with fail
        have hp := ((((((((((HB.out.2.2.2.1.put 0 (.int .i64 0)).put 1 (.int .u32 n)).put 2 (.string ⟨#[]⟩)).put 3 (.int .i64 0)).put 4 (.string ⟨#[]⟩)).put 5 (.int .i64 x)).put 6 (.int .u8 fx)).put 7 (.int .u32 ux)).put 8 (.int .u32 sx)).put 9 (.slice px bx cx))
        simp only [List.setIfInBounds_toArray, List.set_cons_zero, List.set_cons_succ] at hp
        refine bodyPost_ret (v := .tuple #[.agg #[.int .i64 0, .int .u32 n, .string ⟨#[]⟩, .int .i64 0, .string ⟨#[]⟩, .int .i64 x, .int .u8 fx, .int .u32 ux, .int .u32 sx, .slice px bx cx], .bool false]) (results_ten2 (by rfl) (by rfl) (by rfl) hp.drew) rfl ⟨by rw [← HOK.out]; obtain ⟨rfl, rfl, rfl, rfl, rfl, rfl, rfl⟩ := HE.out; rfl, ?_⟩
        refine Below.drew ?_
        (repeat with_reducible refine Below.setCell ?_ (Nat.le_succ _) _)
        exact HB.out.2.2.2.2
      | true =>
        cases hf0 : decide (fl ≤ 31) with
        | false =>
          have HOK : Hid (okF x fl bl = false) := Lib.hid (by unfold okF; rw [hx0, hf0]; rfl)
          go_wp2_with fail
          refine wp_region_noPanic ?_
          refine wp_region_held_drew (S := (fun W => (W.cell? ⟨w.heap.size + 1 + 1, 0, none⟩ = some (.int .i64 0) ∧ W.cell? ⟨w.heap.size + 1 + 1, 1, none⟩ = some (.int .u32 n) ∧ W.cell? ⟨w.heap.size + 1 + 1, 2, none⟩ = some (.string ⟨#[]⟩) ∧ W.cell? ⟨w.heap.size + 1 + 1, 3, none⟩ = some (.int .i64 0) ∧ W.cell? ⟨w.heap.size + 1 + 1, 4, none⟩ = some (.string ⟨#[]⟩) ∧ W.cell? ⟨w.heap.size + 1 + 1, 5, none⟩ = some (.int .i64 x) ∧ W.cell? ⟨w.heap.size + 1 + 1, 6, none⟩ = some (.int .u8 fx) ∧ W.cell? ⟨w.heap.size + 1 + 1, 7, none⟩ = some (.int .u32 ux) ∧ W.cell? ⟨w.heap.size + 1 + 1, 8, none⟩ = some (.int .u32 sx) ∧ W.cell? ⟨w.heap.size + 1 + 1, 9, none⟩ = some (.slice px bx cx)) ∧ W.cell? ⟨w.heap.size, 6, none⟩ = some (.int .u8 fl) ∧ W.cell? ⟨w.heap.size, 9, none⟩ = some (.slice P bl c))) (by kernel_rfl) ?_ (fun hHeldA => ?_)
          · first | (dsimp only; (refine ft_keep (k := k) (st := st) (it := it) (ui := ui) (sz := sz) (tg := tg) (tx := tx) ?_ ?_ <;> ((with_reducible refine Blk.drew ?_); (repeat (with_reducible refine Blk.far3 ?_ (by omega) _)); first | with_reducible exact hQ | with_reducible exact hR))) | (refine ft_keep (k := k) (st := st) (it := it) (ui := ui) (sz := sz) (tg := tg) (tx := tx) ?_ ?_ <;> ((with_reducible refine Blk.drew ?_); (repeat (with_reducible refine Blk.far3 ?_ (by omega) _)); first | with_reducible exact hQ | with_reducible exact hR))
          refine wpAnyH_take (i := 0) (v := ?_) rfl (by kernel_rfl) (by kernel_rfl) (by kernel_rfl) (fun _ _ _ h => h) (Or.inl ⟨by rfl, ?_⟩) (by assumption) ?_
          rotate_left
          · intro w hSw
            try dsimp only at hSw
            go_simp
            try with_reducible rfl
          try simp only [List.getElem_toArray, List.getElem_cons_zero, List.getElem_cons_succ, Act.put, List.setIfInBounds_toArray, List.set_cons_zero, List.set_cons_succ]
          refine wpAnyH_take (i := 1) (v := ?_) rfl (by kernel_rfl) (by kernel_rfl) (by kernel_rfl) (fun _ _ _ h => h) (Or.inl ⟨by rfl, ?_⟩) (by assumption) ?_
          rotate_left
          · intro w hSw
            try dsimp only at hSw
            go_simp
            try with_reducible rfl
          try simp only [List.getElem_toArray, List.getElem_cons_zero, List.getElem_cons_succ, Act.put, List.setIfInBounds_toArray, List.set_cons_zero, List.set_cons_succ]
          refine wpAnyH_take (i := 2) (v := ?_) rfl (by kernel_rfl) (by kernel_rfl) (by kernel_rfl) (fun _ _ _ h => h) (Or.inl ⟨by rfl, ?_⟩) (by assumption) ?_
          rotate_left
          · intro w hSw
            try dsimp only at hSw
            go_simp
            try with_reducible rfl
          try simp only [List.getElem_toArray, List.getElem_cons_zero, List.getElem_cons_succ, Act.put, List.setIfInBounds_toArray, List.set_cons_zero, List.set_cons_succ]
          refine wpAnyH_take (i := 3) (v := ?_) rfl (by kernel_rfl) (by kernel_rfl) (by kernel_rfl) (fun _ _ _ h => h) (Or.inl ⟨by rfl, ?_⟩) (by assumption) ?_
          rotate_left
          · intro w hSw
            try dsimp only at hSw
            go_simp
            try with_reducible rfl
          try simp only [List.getElem_toArray, List.getElem_cons_zero, List.getElem_cons_succ, Act.put, List.setIfInBounds_toArray, List.set_cons_zero, List.set_cons_succ]
          refine wpAnyH_take (i := 4) (v := ?_) rfl (by kernel_rfl) (by kernel_rfl) (by kernel_rfl) (fun _ _ _ h => h) (Or.inl ⟨by rfl, ?_⟩) (by assumption) ?_
          rotate_left
          · intro w hSw
            try dsimp only at hSw
            go_simp
            try with_reducible rfl
          try simp only [List.getElem_toArray, List.getElem_cons_zero, List.getElem_cons_succ, Act.put, List.setIfInBounds_toArray, List.set_cons_zero, List.set_cons_succ]
          refine wpAnyH_take (i := 5) (v := ?_) rfl (by kernel_rfl) (by kernel_rfl) (by kernel_rfl) (fun _ _ _ h => h) (Or.inl ⟨by rfl, ?_⟩) (by assumption) ?_
          rotate_left
          · intro w hSw
            try dsimp only at hSw
            go_simp
            try with_reducible rfl
          try simp only [List.getElem_toArray, List.getElem_cons_zero, List.getElem_cons_succ, Act.put, List.setIfInBounds_toArray, List.set_cons_zero, List.set_cons_succ]
          refine wpAnyH_take (i := 6) (v := ?_) rfl (by kernel_rfl) (by kernel_rfl) (by kernel_rfl) (fun _ _ _ h => h) (Or.inl ⟨by rfl, ?_⟩) (by assumption) ?_
          rotate_left
          · intro w hSw
            try dsimp only at hSw
            go_simp
            try with_reducible rfl
          try simp only [List.getElem_toArray, List.getElem_cons_zero, List.getElem_cons_succ, Act.put, List.setIfInBounds_toArray, List.set_cons_zero, List.set_cons_succ]
          refine wpAnyH_take (i := 7) (v := ?_) rfl (by kernel_rfl) (by kernel_rfl) (by kernel_rfl) (fun _ _ _ h => h) (Or.inl ⟨by rfl, ?_⟩) (by assumption) ?_
          rotate_left
          · intro w hSw
            try dsimp only at hSw
            go_simp
            try with_reducible rfl
          try simp only [List.getElem_toArray, List.getElem_cons_zero, List.getElem_cons_succ, Act.put, List.setIfInBounds_toArray, List.set_cons_zero, List.set_cons_succ]
          refine wpAnyH_take (i := 8) (v := ?_) rfl (by kernel_rfl) (by kernel_rfl) (by kernel_rfl) (fun _ _ _ h => h) (Or.inl ⟨by rfl, ?_⟩) (by assumption) ?_
          rotate_left
          · intro w hSw
            try dsimp only at hSw
            go_simp
            try with_reducible rfl
          try simp only [List.getElem_toArray, List.getElem_cons_zero, List.getElem_cons_succ, Act.put, List.setIfInBounds_toArray, List.set_cons_zero, List.set_cons_succ]
          refine wpAnyH_take (i := 9) (v := ?_) rfl (by kernel_rfl) (by kernel_rfl) (by kernel_rfl) (fun _ _ _ h => h) (Or.inl ⟨by rfl, ?_⟩) (by assumption) ?_
          rotate_left
          · intro w hSw
            try dsimp only at hSw
            go_simp
            try with_reducible rfl
          try simp only [List.getElem_toArray, List.getElem_cons_zero, List.getElem_cons_succ, Act.put, List.setIfInBounds_toArray, List.set_cons_zero, List.set_cons_succ]
          refine wpAnyH_take (i := 10) (v := undef) rfl (by kernel_rfl) (by kernel_rfl) (by kernel_rfl) (fun _ _ _ h => h) (Or.inr ⟨by rfl, rfl⟩) (by assumption) ?_
          try simp only [List.getElem_toArray, List.getElem_cons_zero, List.getElem_cons_succ, Act.put, List.setIfInBounds_toArray, List.set_cons_zero, List.set_cons_succ]
          refine wpAnyH_take (i := 11) (v := undef) rfl (by kernel_rfl) (by kernel_rfl) (by kernel_rfl) (fun _ _ _ h => h) (Or.inr ⟨by rfl, rfl⟩) (by assumption) ?_
          try simp only [List.getElem_toArray, List.getElem_cons_zero, List.getElem_cons_succ, Act.put, List.setIfInBounds_toArray, List.set_cons_zero, List.set_cons_succ]
          refine wpAnyH_take (i := 12) (v := undef) rfl (by kernel_rfl) (by kernel_rfl) (by kernel_rfl) (fun _ _ _ h => h) (Or.inr ⟨by rfl, rfl⟩) (by assumption) ?_
          try simp only [List.getElem_toArray, List.getElem_cons_zero, List.getElem_cons_succ, Act.put, List.setIfInBounds_toArray, List.set_cons_zero, List.set_cons_succ]
          refine wpAnyH_take (i := 13) (v := undef) rfl (by kernel_rfl) (by kernel_rfl) (by kernel_rfl) (fun _ _ _ h => h) (Or.inr ⟨by rfl, rfl⟩) (by assumption) ?_
          try simp only [List.getElem_toArray, List.getElem_cons_zero, List.getElem_cons_succ, Act.put, List.setIfInBounds_toArray, List.set_cons_zero, List.set_cons_succ]
          refine wpAnyH_take (i := 14) (v := ?_) rfl (by kernel_rfl) (by kernel_rfl) (by kernel_rfl) (fun _ _ _ h => h) (Or.inl ⟨by rfl, ?_⟩) (by assumption) ?_
          rotate_left
          · intro w hSw
            try dsimp only at hSw
            go_simp
            try with_reducible rfl
          try simp only [List.getElem_toArray, List.getElem_cons_zero, List.getElem_cons_succ, Act.put, List.setIfInBounds_toArray, List.set_cons_zero, List.set_cons_succ]
          refine wpAnyH_ready (rs := [15]) (by kernel_rfl) (by simp) ?_
          refine AllReadyH.cons rfl (fun K hK => ?_) (AllReadyH.nil)
          try simp only [List.getElem_toArray, List.getElem_cons_zero, List.getElem_cons_succ]
          go_simp
          first | (with_reducible refine hK.out _ _ ?_ (fun hHeldB => ?_)) | (go_wp2_with fail; refine hK.out _ _ ?_ (fun hHeldB => ?_))
          · first | (dsimp only; (refine ft_keep (k := k) (st := st) (it := it) (ui := ui) (sz := sz) (tg := tg) (tx := tx) ?_ ?_ <;> ((with_reducible refine Blk.drew ?_); (repeat (with_reducible refine Blk.far3 ?_ (by omega) _)); first | with_reducible exact hQ | with_reducible exact hR))) | (refine ft_keep (k := k) (st := st) (it := it) (ui := ui) (sz := sz) (tg := tg) (tx := tx) ?_ ?_ <;> ((with_reducible refine Blk.drew ?_); (repeat (with_reducible refine Blk.far3 ?_ (by omega) _)); first | with_reducible exact hQ | with_reducible exact hR))
          clear hK K hHeldA
          try simp only [Act.put, List.setIfInBounds_toArray, List.set_cons_zero, List.set_cons_succ]
          refine wpAnyH_take (i := 16) (v := ?_) rfl (by kernel_rfl) (by kernel_rfl) (by kernel_rfl) (fun _ _ _ h => h) (Or.inl ⟨by rfl, ?_⟩) (by assumption) ?_
          rotate_left
          · intro w hSw
            try dsimp only at hSw
            go_simp
            try with_reducible rfl
          try simp only [List.getElem_toArray, List.getElem_cons_zero, List.getElem_cons_succ, Act.put, List.setIfInBounds_toArray, List.set_cons_zero, List.set_cons_succ]
          refine wpAnyH_done (by kernel_rfl) ?_ _
          refine NoPanic.normal ?_
          go_wp2_with fail
          have hp := ((((((((((HB.out.2.2.2.1.put 0 (.int .i64 0)).put 1 (.int .u32 n)).put 2 (.string ⟨#[]⟩)).put 3 (.int .i64 0)).put 4 (.string ⟨#[]⟩)).put 5 (.int .i64 x)).put 6 (.int .u8 fx)).put 7 (.int .u32 ux)).put 8 (.int .u32 sx)).put 9 (.slice px bx cx))
          simp only [List.setIfInBounds_toArray, List.set_cons_zero, List.set_cons_succ] at hp
          refine bodyPost_ret (v := .tuple #[.agg #[.int .i64 0, .int .u32 n, .string ⟨#[]⟩, .int .i64 0, .string ⟨#[]⟩, .int .i64 x, .int .u8 fx, .int .u32 ux, .int .u32 sx, .slice px bx cx], .bool false]) (results_ten2 (by rfl) (by rfl) (by rfl) hp.drew) rfl ⟨by rw [← HOK.out]; obtain ⟨rfl, rfl, rfl, rfl, rfl, rfl, rfl⟩ := HE.out; rfl, ?_⟩
          refine Below.drew ?_
          (repeat with_reducible refine Below.setCell ?_ (Nat.le_succ _) _)
          exact HB.out.2.2.2.2
        | true =>
          generalize hl0 : decide ((bl : Int) ≤ 65536) = bo
          have HOK : Hid (okF x fl bl = bo) := Lib.hid (by unfold okF; rw [hx0, hf0, hl0]; rfl)
          go_wp2_with fail
          refine wp_region_noPanic ?_
          refine wp_region_held_drew (S := (fun W => (W.cell? ⟨w.heap.size + 1 + 1, 0, none⟩ = some (.int .i64 0) ∧ W.cell? ⟨w.heap.size + 1 + 1, 1, none⟩ = some (.int .u32 n) ∧ W.cell? ⟨w.heap.size + 1 + 1, 2, none⟩ = some (.string ⟨#[]⟩) ∧ W.cell? ⟨w.heap.size + 1 + 1, 3, none⟩ = some (.int .i64 0) ∧ W.cell? ⟨w.heap.size + 1 + 1, 4, none⟩ = some (.string ⟨#[]⟩) ∧ W.cell? ⟨w.heap.size + 1 + 1, 5, none⟩ = some (.int .i64 x) ∧ W.cell? ⟨w.heap.size + 1 + 1, 6, none⟩ = some (.int .u8 fx) ∧ W.cell? ⟨w.heap.size + 1 + 1, 7, none⟩ = some (.int .u32 ux) ∧ W.cell? ⟨w.heap.size + 1 + 1, 8, none⟩ = some (.int .u32 sx) ∧ W.cell? ⟨w.heap.size + 1 + 1, 9, none⟩ = some (.slice px bx cx)) ∧ W.cell? ⟨w.heap.size, 6, none⟩ = some (.int .u8 fl) ∧ W.cell? ⟨w.heap.size, 9, none⟩ = some (.slice P bl c))) (by kernel_rfl) ?_ (fun hHeldA => ?_)
          · first | (dsimp only; (refine ft_keep (k := k) (st := st) (it := it) (ui := ui) (sz := sz) (tg := tg) (tx := tx) ?_ ?_ <;> ((with_reducible refine Blk.drew ?_); (repeat (with_reducible refine Blk.far3 ?_ (by omega) _)); first | with_reducible exact hQ | with_reducible exact hR))) | (refine ft_keep (k := k) (st := st) (it := it) (ui := ui) (sz := sz) (tg := tg) (tx := tx) ?_ ?_ <;> ((with_reducible refine Blk.drew ?_); (repeat (with_reducible refine Blk.far3 ?_ (by omega) _)); first | with_reducible exact hQ | with_reducible exact hR))
          refine wpAnyH_take (i := 0) (v := ?_) rfl (by kernel_rfl) (by kernel_rfl) (by kernel_rfl) (fun _ _ _ h => h) (Or.inl ⟨by rfl, ?_⟩) (by assumption) ?_
          rotate_left
          · intro w hSw
            try dsimp only at hSw
            go_simp
            try with_reducible rfl
          try simp only [List.getElem_toArray, List.getElem_cons_zero, List.getElem_cons_succ, Act.put, List.setIfInBounds_toArray, List.set_cons_zero, List.set_cons_succ]
          refine wpAnyH_take (i := 1) (v := ?_) rfl (by kernel_rfl) (by kernel_rfl) (by kernel_rfl) (fun _ _ _ h => h) (Or.inl ⟨by rfl, ?_⟩) (by assumption) ?_
          rotate_left
          · intro w hSw
            try dsimp only at hSw
            go_simp
            try with_reducible rfl
          try simp only [List.getElem_toArray, List.getElem_cons_zero, List.getElem_cons_succ, Act.put, List.setIfInBounds_toArray, List.set_cons_zero, List.set_cons_succ]
          refine wpAnyH_take (i := 2) (v := ?_) rfl (by kernel_rfl) (by kernel_rfl) (by kernel_rfl) (fun _ _ _ h => h) (Or.inl ⟨by rfl, ?_⟩) (by assumption) ?_
          rotate_left
          · intro w hSw
            try dsimp only at hSw
            go_simp
            try with_reducible rfl
          try simp only [List.getElem_toArray, List.getElem_cons_zero, List.getElem_cons_succ, Act.put, List.setIfInBounds_toArray, List.set_cons_zero, List.set_cons_succ]
          refine wpAnyH_take (i := 3) (v := ?_) rfl (by kernel_rfl) (by kernel_rfl) (by kernel_rfl) (fun _ _ _ h => h) (Or.inl ⟨by rfl, ?_⟩) (by assumption) ?_
          rotate_left
          · intro w hSw
            try dsimp only at hSw
            go_simp
            try with_reducible rfl
          try simp only [List.getElem_toArray, List.getElem_cons_zero, List.getElem_cons_succ, Act.put, List.setIfInBounds_toArray, List.set_cons_zero, List.set_cons_succ]
          refine wpAnyH_take (i := 4) (v := ?_) rfl (by kernel_rfl) (by kernel_rfl) (by kernel_rfl) (fun _ _ _ h => h) (Or.inl ⟨by rfl, ?_⟩) (by assumption) ?_
          rotate_left
          · intro w hSw
            try dsimp only at hSw
            go_simp
            try with_reducible rfl
          try simp only [List.getElem_toArray, List.getElem_cons_zero, List.getElem_cons_succ, Act.put, List.setIfInBounds_toArray, List.set_cons_zero, List.set_cons_succ]
          refine wpAnyH_take (i := 5) (v := ?_) rfl (by kernel_rfl) (by kernel_rfl) (by kernel_rfl) (fun _ _ _ h => h) (Or.inl ⟨by rfl, ?_⟩) (by assumption) ?_
          rotate_left
          · intro w hSw
            try dsimp only at hSw
            go_simp
            try with_reducible rfl
          try simp only [List.getElem_toArray, List.getElem_cons_zero, List.getElem_cons_succ, Act.put, List.setIfInBounds_toArray, List.set_cons_zero, List.set_cons_succ]
          refine wpAnyH_take (i := 6) (v := ?_) rfl (by kernel_rfl) (by kernel_rfl) (by kernel_rfl) (fun _ _ _ h => h) (Or.inl ⟨by rfl, ?_⟩) (by assumption) ?_
          rotate_left
          · intro w hSw
            try dsimp only at hSw
            go_simp
            try with_reducible rfl
          try simp only [List.getElem_toArray, List.getElem_cons_zero, List.getElem_cons_succ, Act.put, List.setIfInBounds_toArray, List.set_cons_zero, List.set_cons_succ]
          refine wpAnyH_take (i := 7) (v := ?_) rfl (by kernel_rfl) (by kernel_rfl) (by kernel_rfl) (fun _ _ _ h => h) (Or.inl ⟨by rfl, ?_⟩) (by assumption) ?_
          rotate_left
          · intro w hSw
            try dsimp only at hSw
            go_simp
            try with_reducible rfl
          try simp only [List.getElem_toArray, List.getElem_cons_zero, List.getElem_cons_succ, Act.put, List.setIfInBounds_toArray, List.set_cons_zero, List.set_cons_succ]
          refine wpAnyH_take (i := 8) (v := ?_) rfl (by kernel_rfl) (by kernel_rfl) (by kernel_rfl) (fun _ _ _ h => h) (Or.inl ⟨by rfl, ?_⟩) (by assumption) ?_
          rotate_left
          · intro w hSw
            try dsimp only at hSw
            go_simp
            try with_reducible rfl
          try simp only [List.getElem_toArray, List.getElem_cons_zero, List.getElem_cons_succ, Act.put, List.setIfInBounds_toArray, List.set_cons_zero, List.set_cons_succ]
          refine wpAnyH_take (i := 9) (v := ?_) rfl (by kernel_rfl) (by kernel_rfl) (by kernel_rfl) (fun _ _ _ h => h) (Or.inl ⟨by rfl, ?_⟩) (by assumption) ?_
          rotate_left
          · intro w hSw
            try dsimp only at hSw
            go_simp
            try with_reducible rfl
          try simp only [List.getElem_toArray, List.getElem_cons_zero, List.getElem_cons_succ, Act.put, List.setIfInBounds_toArray, List.set_cons_zero, List.set_cons_succ]
          refine wpAnyH_take (i := 10) (v := ?_) rfl (by kernel_rfl) (by kernel_rfl) (by kernel_rfl) (fun _ _ _ h => h) (Or.inl ⟨by rfl, ?_⟩) (by assumption) ?_
          rotate_left
          · intro w hSw
            try dsimp only at hSw
            go_simp
            try with_reducible rfl
          try simp only [List.getElem_toArray, List.getElem_cons_zero, List.getElem_cons_succ, Act.put, List.setIfInBounds_toArray, List.set_cons_zero, List.set_cons_succ]
          refine wpAnyH_take (i := 11) (v := ?_) rfl (by kernel_rfl) (by kernel_rfl) (by kernel_rfl) (fun _ _ _ h => h) (Or.inl ⟨by rfl, ?_⟩) (by assumption) ?_
          rotate_left
          · intro w hSw
            try dsimp only at hSw
            go_simp
            try with_reducible rfl
          try simp only [List.getElem_toArray, List.getElem_cons_zero, List.getElem_cons_succ, Act.put, List.setIfInBounds_toArray, List.set_cons_zero, List.set_cons_succ]
          refine wpAnyH_take (i := 12) (v := ?_) rfl (by kernel_rfl) (by kernel_rfl) (by kernel_rfl) (fun _ _ _ h => h) (Or.inl ⟨by rfl, ?_⟩) (by assumption) ?_
          rotate_left
          · intro w hSw
            try dsimp only at hSw
            go_simp
            try with_reducible rfl
          try simp only [List.getElem_toArray, List.getElem_cons_zero, List.getElem_cons_succ, Act.put, List.setIfInBounds_toArray, List.set_cons_zero, List.set_cons_succ]
          refine wpAnyH_take (i := 13) (v := ?_) rfl (by kernel_rfl) (by kernel_rfl) (by kernel_rfl) (fun _ _ _ h => h) (Or.inl ⟨by rfl, ?_⟩) (by assumption) ?_
          rotate_left
          · intro w hSw
            try dsimp only at hSw
            go_simp
            try with_reducible rfl
          try simp only [List.getElem_toArray, List.getElem_cons_zero, List.getElem_cons_succ, Act.put, List.setIfInBounds_toArray, List.set_cons_zero, List.set_cons_succ]
          refine wpAnyH_take (i := 14) (v := ?_) rfl (by kernel_rfl) (by kernel_rfl) (by kernel_rfl) (fun _ _ _ h => h) (Or.inl ⟨by rfl, ?_⟩) (by assumption) ?_
          rotate_left
          · intro w hSw
            try dsimp only at hSw
            go_simp
            try with_reducible rfl
          try simp only [List.getElem_toArray, List.getElem_cons_zero, List.getElem_cons_succ, Act.put, List.setIfInBounds_toArray, List.set_cons_zero, List.set_cons_succ]
          refine wpAnyH_ready (rs := [15]) (by kernel_rfl) (by simp) ?_
          refine AllReadyH.cons rfl (fun K hK => ?_) (AllReadyH.nil)
          try simp only [List.getElem_toArray, List.getElem_cons_zero, List.getElem_cons_succ]
          go_simp
          first | (with_reducible refine hK.out _ _ ?_ (fun hHeldB => ?_)) | (go_wp2_with fail; refine hK.out _ _ ?_ (fun hHeldB => ?_))
          · first | (dsimp only; (refine ft_keep (k := k) (st := st) (it := it) (ui := ui) (sz := sz) (tg := tg) (tx := tx) ?_ ?_ <;> ((with_reducible refine Blk.drew ?_); (repeat (with_reducible refine Blk.far3 ?_ (by omega) _)); first | with_reducible exact hQ | with_reducible exact hR))) | (refine ft_keep (k := k) (st := st) (it := it) (ui := ui) (sz := sz) (tg := tg) (tx := tx) ?_ ?_ <;> ((with_reducible refine Blk.drew ?_); (repeat (with_reducible refine Blk.far3 ?_ (by omega) _)); first | with_reducible exact hQ | with_reducible exact hR))
          clear hK K hHeldA
          try simp only [Act.put, List.setIfInBounds_toArray, List.set_cons_zero, List.set_cons_succ]
          refine wpAnyH_take (i := 16) (v := ?_) rfl (by kernel_rfl) (by kernel_rfl) (by kernel_rfl) (fun _ _ _ h => h) (Or.inl ⟨by rfl, ?_⟩) (by assumption) ?_
          rotate_left
          · intro w hSw
            try dsimp only at hSw
            go_simp
            try with_reducible rfl
          try simp only [List.getElem_toArray, List.getElem_cons_zero, List.getElem_cons_succ, Act.put, List.setIfInBounds_toArray, List.set_cons_zero, List.set_cons_succ]
          refine wpAnyH_done (by kernel_rfl) ?_ _
          refine NoPanic.normal ?_
          go_wp2_with fail
          have hp := ((((((((((HB.out.2.2.2.1.put 0 (.int .i64 0)).put 1 (.int .u32 n)).put 2 (.string ⟨#[]⟩)).put 3 (.int .i64 0)).put 4 (.string ⟨#[]⟩)).put 5 (.int .i64 x)).put 6 (.int .u8 fx)).put 7 (.int .u32 ux)).put 8 (.int .u32 sx)).put 9 (.slice px bx cx))
          simp only [List.setIfInBounds_toArray, List.set_cons_zero, List.set_cons_succ] at hp
          refine bodyPost_ret (v := .tuple #[.agg #[.int .i64 0, .int .u32 n, .string ⟨#[]⟩, .int .i64 0, .string ⟨#[]⟩, .int .i64 x, .int .u8 fx, .int .u32 ux, .int .u32 sx, .slice px bx cx], .bool bo]) (results_ten2 (by rfl) (by rfl) (by rfl) hp.drew) rfl ⟨by rw [← HOK.out]; obtain ⟨rfl, rfl, rfl, rfl, rfl, rfl, rfl⟩ := HE.out; rfl, ?_⟩
          refine Below.drew ?_
          (repeat with_reducible refine Below.setCell ?_ (Nat.le_succ _) _)
          exact HB.out.2.2.2.2
end Go.Proofs.YtgdhakkfddmkjaaDoor
