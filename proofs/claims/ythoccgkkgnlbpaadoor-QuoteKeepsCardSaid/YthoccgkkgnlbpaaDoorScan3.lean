/- The walks of scan and ScanQuoted, and of the reference's ScanQuoted. -/
import Derived.Test.YthoccgkkgnlbpaaDoorScan2
import Derived.OwnWalk
namespace Go.Proofs.YthoccgkkgnlbpaaDoor
open Go.RowKit

/-- What a reader of forms hands back. -/
def RetS (W : World) (o : Option (List UInt8 × Nat)) (e : Ending) (w' : World) : Prop :=
  ∃ v, e = .returned (.tuple #[v, .int .i64 (((o.map (·.2)).getD 0 : Nat) : Int), .bool o.isSome]) ∧ Buf w' W.heap.size 1 v ((o.map (·.1)).getD []).length (Lib.byteCells ((o.map (·.1)).getD [])) ∧ Below W.heap.size W w'
theorem RetS.none {W w' : World} (h : Below W.heap.size W w') : RetS W none (.returned (.tuple #[.slice none 0 0, .int .i64 0, .bool false])) w' := ⟨_, rfl, Buf.nil _ _ _, h⟩
theorem RetS.some {W w' : World} {v : Value} {m : List UInt8} {j : Nat} (h : Buf w' W.heap.size 1 v m.length (Lib.byteCells m)) (hb : Below W.heap.size W w') : RetS W (some (m, j)) (.returned (.tuple #[v, .int .i64 (j : Int), .bool true])) w' := ⟨_, rfl, h, hb⟩

set_option maxRecDepth 100000 in
set_option maxHeartbeats 1600000 in
theorem scan_any (f : FuncId) (P : Option Addr) (l : List UInt8) (c : Nat) (a : Int) (w : World) (r : Option (List UInt8 × Nat)) (hf : ∀ args w, (callFunc f args).run Tryd.prog w = .ok (.enter f args) w)
    (H : ∀ w1, St w w1 w.heap.size P l.length c a (.slice none 0 0) [] → Calls Tryd.prog f #[.pointer (some ⟨w.heap.size, 0, none⟩)] w1 (ScanPost w w.heap.size P l.length c r)) :
    Calls Tryd.prog 36 #[.slice P l.length c, .int .i64 a, .func (.func f) #[] #[]] w (RetS w r) := by
  have hst : St w (w.alloc (.cells #[.slice P l.length c, .int .i64 a, .slice none 0 0] 67)) w.heap.size P l.length c a (.slice none 0 0) [] :=
    ⟨Blk.made _ _ _, Buf.nil _ _ _, (Below.refl _ _).alloc (Nat.le_refl _) _⟩
  have HH := Lib.hid (H _ hst)
  clear H
  generalize l.length = n at *
  go_enter Tryd.func36, Tryd.ntmps36
  go_wp2_with fail
  refine HH.out.mono ?_
  rintro e w1 hp
  cases r with
  | none =>
    obtain ⟨rfl, hb⟩ := hp
    have HB := Lib.hid hb
    go_wp2_with fail
    go_ret3
    exact RetS.none HB.out
  | some x =>
    obtain ⟨m, j⟩ := x
    obtain ⟨rfl, out, hst1⟩ := hp
    have HS := Lib.hid hst1
    obtain ⟨p4, n4, c4, rfl⟩ := hst1.shape
    have c1 : w1.cell? ⟨w.heap.size, 1, none⟩ = some (.int .i64 j) := by rw [hst1.1.cell]; rfl
    have c2 : w1.cell? ⟨w.heap.size, 2, none⟩ = some (.slice p4 n4 c4) := by rw [hst1.1.cell]; rfl
    clear hst1
    obtain ⟨g, hg⟩ : ∃ g, w.heap.size = g := ⟨_, rfl⟩
    rw [hg] at c1 c2 HS ⊢
    have HG := Lib.hid hg
    clear hg HH hst
    go_wp2_with fail
    go_quiet (fail)
    go_wp2_with fail
    go_ret3
    refine RetS.some ((HS.out.2.1.mono (by have := HG.out; omega)).drewN nq) (YthoccgkkgnlbpaaDoor.Below.many ?_ nq)
    rw [HG.out]; exact HS.out.2.2

set_option maxRecDepth 100000 in
theorem scanQuoted_any (P : Option Addr) (l : List UInt8) (c : Nat) (a : Int) (w : World) (h : Bys w w.heap.size P l) (hl : l.length ≤ 1048576) :
    Calls Tryd.prog 20 #[.slice P l.length c, .int .i64 a] w (RetS w (scanQ l a)) := by
  have H := Lib.hid (scan_any 37 P l c a w (scanQ l a) (fun _ _ => rfl) (fun w1 hst => sQuoted_any w w.heap.size P l c a w1 hst h hl))
  generalize scanQ l a = r at H ⊢
  generalize l.length = n at *
  clear h hl
  go_enter Tryd.func20, Tryd.ntmps20
  go_wp2_with fail
  refine H.out.mono ?_
  rintro e w1 hp
  have HP := Lib.hid hp
  obtain ⟨v, rfl, -, -⟩ := hp
  go_wp2_with fail
  go_ret3
  exact HP.out
end Go.Proofs.YthoccgkkgnlbpaaDoor
