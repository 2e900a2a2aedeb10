/- What the walk of the scanner's method literal stands on. -/
import Derived.Test.YtkifhgnoadmfkaaDoorJ5
import Derived.Test.YtkifhgnoadmfkaaDoorJ4
import Derived.Test.YtkifhgnoadmfkaaDoorLawForms
import Derived.StillTailTactics
import Derived.WalkSpells
import Derived.Deep.RegionWith
import Derived.Deep.DeepCutAuto
set_option linter.unusedVariables false
set_option linter.unusedSimpArgs false
namespace Go.Proofs.YtkifhgnoadmfkaaDoor
open Go.RowKit

theorem idxByte_any (q : Addr) (cap n : Nat) (l : List UInt8) (hn : l.length = n) (w : World) (B : Nat) (h : Bys w B (some q) l) :
    Calls Tryd.prog 19 #[.slice (some q) n cap, .int .u8 125] w fun e w' => e = .returned (.int .i64 (ixV (firstIx 125 l))) ∧ w' = w := by
  subst hn
  refine (Tryd.bytes_IndexByte_at q l.length cap (ints l) 125 w (ints_length l) (fun i hi => ?_)).mono ?_
  · obtain ⟨b, o, e, hb, hc⟩ := h (by omega)
    injection e with e
    subst e
    rw [Go.WideShapes.add_plain, hc i hi]; simp [ints, hi]
  · rintro e w' ⟨rfl, rfl⟩
    rw [bytesOf_ints, show (125 : Int).toNat.toUInt8 = 125 from rfl, firstIx_lib]
    exact ⟨rfl, rfl⟩

set_option maxRecDepth 100000 in
theorem clone_any (q : Addr) (cap n : Nat) (l : List UInt8) (hn : l.length = n) (w : World) (h : Bys w w.heap.size (some q) l) (hl : l.length ≤ 1048576) :
    Calls Tryd.prog 85 #[.slice (some q) n cap] w (RetB w l) := by
  subst hn
  obtain ⟨p2, c2, w1, hrun, hc2, hbuf, hb1⟩ := own_copy w (some q) cap l h hl
  have HR := Lib.hid hrun
  have HB := Lib.hid (And.intro hbuf hb1)
  have en := Lib.run_eql_slice_nil (P := Tryd.prog)
  clear h hl hrun hbuf hb1 hc2
  generalize hn : l.length = n at *
  have HN := Lib.hid hn
  clear hn
  go_enter Tryd.func85, Tryd.ntmps85
  go_wp2_with (at_builtin; refine wpList_append_run _ rfl (.tmp 5) (.tmp 6) _ _ rfl _ _ rfl rfl _ _ HR.out ?_)
  go_ret
  exact ⟨_, rfl, by rw [HN.out]; exact HB.out.1, HB.out.2⟩

theorem numV_get (o : Option Nat) : numV o = .tuple #[.int .u32 ((o.getD 0 : Nat) : Int), .bool o.isSome] := by cases o <;> rfl
/-- What 'is' leaves at a byte that is there. -/
theorem is_st {w0 w : World} {g p o n c k : Nat} {out : Value} {m : List UInt8} {x v : Int} {b : Bool} (h : St w0 w g (some ⟨p, o, none⟩) n c (k : Int) out m) (hk : k < n) (hn : n ≤ 1048576) (hx : w.cell? ⟨p, o + k, none⟩ = some (.int .u8 x)) (hg : p ≠ g) (hv : (x == v) = b) :
    Calls Tryd.prog 82 #[.pointer (some ⟨g, 0, none⟩), .int .u8 v] w fun e w' => e = .returned (.bool b) ∧ St w0 w' g (some ⟨p, o, none⟩) n c ((k + 1 : Nat) : Int) out m :=
  (is_yes g p o n c k x v b out w h.1 hk hn hx hg hv).mono fun e w' ⟨he, i, hi⟩ => ⟨he, by
    have := h.take hi
    rw [show ((k : Int) + 1) = ((k + 1 : Nat) : Int) by omega] at this
    exact this⟩
theorem is_st0 {w0 w : World} {g n c : Nat} {P : Option Addr} {k : Int} {out : Value} {m : List UInt8} (v : Int) (h : St w0 w g P n c k out m) (hk : k < 0 ∨ (n : Int) ≤ k) :
    Calls Tryd.prog 82 #[.pointer (some ⟨g, 0, none⟩), .int .u8 v] w fun e w' => e = .returned (.bool false) ∧ St w0 w' g P n c k out m :=
  (is_no g P n c k v out w h.1 hk).mono fun e w' ⟨he, i, hi⟩ => ⟨he, by subst hi; exact h.drewN i⟩
/-- The scanner's cells, as the walk asks for them. -/
theorem St.cells {w0 w : World} {g n c : Nat} {P : Option Addr} {k : Int} {out : Value} {m : List UInt8} (h : St w0 w g P n c k out m) :
    w.cell? ⟨g, 0, none⟩ = some (.slice P n c) ∧ w.cell? ⟨g, 1, none⟩ = some (.int .i64 k) ∧ w.cell? ⟨g, 2, none⟩ = some out ∧ w.frozen? ⟨g, 1, none⟩ = false ∧ w.frozen? ⟨g, 2, none⟩ = false := by
  refine ⟨?_, ?_, ?_, h.1.frz 1, h.1.frz 2⟩ <;> · rw [h.1.cell]; rfl

theorem is_false {w0 w : World} {g p o n c k : Nat} {out : Value} {m l : List UInt8} (v : UInt8) (h : St w0 w g (some ⟨p, o, none⟩) n c (k : Int) out m) (hb : Bys w0 g (some ⟨p, o, none⟩) l) (hn : l.length = n) (hn5 : n ≤ 1048576) (hpg : p ≠ g) (hx : ¬ l[k]? = some v) :
    Calls Tryd.prog 82 #[.pointer (some ⟨g, 0, none⟩), .int .u8 (v.toNat : Int)] w fun e w' => e = .returned (.bool false) ∧ Below g w0 w' := by
  by_cases hk : k < n
  · obtain ⟨b2, o2, e, hb2, hc⟩ := hb (by omega)
    injection e with e
    injection e with e1 e2
    subst e1 e2
    have hkl : k < l.length := by omega
    have hne : l[k] ≠ v := fun e => hx (by rw [List.getElem?_eq_getElem hkl, e])
    have hcell : w.cell? ⟨p, o + k, none⟩ = some (.int .u8 (l[k].toNat : Int)) := by rw [h.2.2.cell (p := ⟨p, o + k, none⟩) hb2]; exact hc k hkl
    refine (is_st (v := (v.toNat : Int)) (b := false) h hk hn5 hcell hpg (by rw [beq_eq_false_iff_ne]; exact fun e => hne (UInt8.toNat_inj.1 (by omega)))).mono ?_
    rintro e w' ⟨he, hs⟩
    exact ⟨he, hs.2.2⟩
  · refine (is_st0 (v.toNat : Int) h (.inr (by omega))).mono ?_
    rintro e w' ⟨he, hs⟩
    exact ⟨he, hs.2.2⟩
theorem is_true {w0 w : World} {g p o n c k : Nat} {out : Value} {m l : List UInt8} (v : UInt8) (h : St w0 w g (some ⟨p, o, none⟩) n c (k : Int) out m) (hb : Bys w0 g (some ⟨p, o, none⟩) l) (hn : l.length = n) (hn5 : n ≤ 1048576) (hpg : p ≠ g) (hx : l[k]? = some v) :
    Calls Tryd.prog 82 #[.pointer (some ⟨g, 0, none⟩), .int .u8 (v.toNat : Int)] w fun e w' => e = .returned (.bool true) ∧ St w0 w' g (some ⟨p, o, none⟩) n c ((k + 1 : Nat) : Int) out m := by
  obtain ⟨hkl, hxe⟩ := List.getElem?_eq_some_iff.1 hx
  obtain ⟨b2, o2, e, hb2, hc⟩ := hb (by omega)
  injection e with e
  injection e with e1 e2
  subst e1 e2
  have hcell : w.cell? ⟨p, o + k, none⟩ = some (.int .u8 (l[k].toNat : Int)) := by rw [h.2.2.cell (p := ⟨p, o + k, none⟩) hb2]; exact hc k hkl
  exact is_st (v := (v.toNat : Int)) (b := true) h (by omega) hn5 hcell hpg (by rw [hxe, beq_iff_eq])
theorem St.put {w0 w : World} {g n c : Nat} {P : Option Addr} {k : Int} {out v : Value} {m m' : List UInt8} (h : St w0 w g P n c k out m) (hv : Buf w (g + 1) 1 v m'.length (Lib.byteCells m')) : St w0 (w.setCell ⟨g, 2, none⟩ v) g P n c k v m' :=
  ⟨h.1.put 2 v, hv.far (p := ⟨g, 2, none⟩) (fun e => by have := hv.not_own g e; omega) v, h.2.2.setCell (p := ⟨g, 2, none⟩) (Nat.le_refl _) _⟩

/-- Which way the walk of literal takes behind the number. -/
def litSel (l : List UInt8) (c k : Nat) : Nat :=
  match firstIx 125 (l.drop (k + 1)) with
  | none => 0
  | some j => if (numB ((l.drop (k + 1)).take j)).isSome then (if (numB ((l.drop (k + 1)).take j)).getD 0 ≤ 65536 then if l[k + 1 + j + 1]? = some 13 then if l[k + 1 + j + 2]? = some 10 then if k + 1 + j + 3 + (numB ((l.drop (k + 1)).take j)).getD 0 ≤ l.length then if c = k + 1 + j + 3 then 5 else 6 else 4 else 3 else 2 else 1) else 0
end Go.Proofs.YtkifhgnoadmfkaaDoor
