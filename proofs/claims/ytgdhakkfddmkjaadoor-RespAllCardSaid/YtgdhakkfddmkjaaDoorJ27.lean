/- The walk of the reference's Message. · A row of bytes that may be written. -/
import Derived.Test.YtgdhakkfddmkjaaDoorJ8
import Derived.Test.YtgdhakkfddmkjaaDoorLawForms
import Derived.Test.YtgdhakkfddmkjaaDoorJ3
import Derived.Lib.UnsafeStr
import Derived.Deep.RegionHeld
set_option linter.unusedVariables false
set_option linter.unusedSimpArgs false
namespace Go.Proofs.YtgdhakkfddmkjaaDoor
open Go.RowKit

def adI (x : Int) (b : Bool) (m : Int) : Int := if b then x + m else x
theorem adI_le {x N m : Int} (b : Bool) (h0 : 0 ≤ x) (h1 : x ≤ N) (hm : 0 ≤ m) : 0 ≤ adI x b m ∧ adI x b m ≤ N + m := by
  cases b <;> simp only [adI] <;> constructor <;> simp <;> omega
/-- What the reference's Message hands back. -/
def RmPost (w : World) (n it fl ui sz : Int) (l : List UInt8) (b1 b2 b4 b16 : Bool) (e : Ending) (w' : World) : Prop :=
  ∃ pv cv, e = .returned (.agg (outC 4 n it (selI b1 fl) (selI b2 ui) (selI b4 sz) (.slice (selA b16 pv) (selN b16 l.length) (selN b16 cv)))) ∧ (b16 = true → Bys w' w'.heap.size pv l) ∧ Below w.heap.size w w'
theorem bys_of_buf {W : World} {base cv : Nat} {pv : Option Addr} {l : List UInt8} (h : Buf W base 1 (.slice pv l.length cv) l.length (Lib.byteCells l)) : Bys W W.heap.size pv l := by
  obtain ⟨p3, c3, e3, -, hby⟩ := Buf.bys h
  injection e3 with e31 e32 e33
  subst e31
  exact hby
def RmInv (w wx : World) (m row : Array Value) : Prop :=
  Below w.heap.size w wx ∧ Blk wx w.heap.size 37 m ∧ Blk wx (w.heap.size + 1) 26 #[.int .i64 0, .int .u32 0, .string ⟨#[]⟩, .int .i64 0, .string ⟨#[]⟩, .int .i64 0, .int .u8 0, .int .u32 0, .int .u32 0, .slice none 0 0] ∧ Blk wx (w.heap.size + 2) 26 row
theorem RmInv.put {w wx : World} {m row : Array Value} (h : RmInv w wx m row) (i : Nat) (v : Value) : RmInv w (wx.setCell ⟨w.heap.size + 2, i, none⟩ v) m (row.setIfInBounds i v) :=
  ⟨h.1.setCell (by show w.heap.size ≤ w.heap.size + 2; omega) v, h.2.1.far (by show w.heap.size ≠ w.heap.size + 2; omega) v, h.2.2.1.far (by show w.heap.size + 1 ≠ w.heap.size + 2; omega) v, h.2.2.2.put i v⟩
theorem RmInv.below {w wx wy : World} {m row : Array Value} (h : RmInv w wx m row) (hb : Below wx.heap.size wx wy) : RmInv w wy m row :=
  ⟨below_call h.1 hb, Blk.below h.2.1 hb h.2.1.lt, Blk.below h.2.2.1 hb h.2.2.1.lt, Blk.below h.2.2.2 hb h.2.2.2.lt⟩

set_option maxRecDepth 100000 in
set_option maxHeartbeats 6400000 in
theorem rmessage_any (n it fl ui : Int) (P : Option Addr) (l : List UInt8) (c : Nat) (w : World) (b1 b2 b4 b16 : Bool) (h1 : (bits .and .i64 it 1 != 0) = b1) (h2 : (bits .and .i64 it 2 != 0) = b2) (h4 : (bits .and .i64 it 4 != 0) = b4) (h16 : (bits .and .i64 it 24 != 0) = b16)
    (hb : Bys w w.heap.size P l) (hl : l.length ≤ 100000) (hn0 : 0 ≤ n) (hn1 : n < 4294967296) :
    Calls Tryd.prog 19 #[.int .i64 n, .int .i64 it, .agg #[.int .u32 ui, .int .u8 fl, .slice P l.length c]] w (RmPost w n (adI (adI (adI (adI 0 b1 1) b2 2) b4 4) b16 16) fl ui (l.length : Nat) l b1 b2 b4 b16) := by
  have HOC := Lib.hid (fun W (hW : Below w.heap.size w W) => own_copy W P c l ((hb.below hW).more hW.size) (by omega))
  have Hb1 := Lib.hid h1
  have Hb2 := Lib.hid h2
  have Hb4 := Lib.hid h4
  have Hb16 := Lib.hid h16
  have HMP : Hid (∀ e w', RmPost w n (adI (adI (adI (adI 0 b1 1) b2 2) b4 4) b16 16) fl ui (l.length : Nat) l b1 b2 b4 b16 e w' → RmPost w n (adI (adI (adI (adI 0 b1 1) b2 2) b4 4) b16 16) fl ui (l.length : Nat) l b1 b2 b4 b16 e w') := Lib.hid fun _ _ h => h
  clear h1 h2 h4 h16 hb
  generalize hbl : l.length = bl at *
  have hbl2 : (bl : Int) ≤ 100000 := by omega
  have HBL := Lib.hid hbl
  clear hbl hl
  obtain ⟨sz, hsz⟩ : ∃ sz : Int, sz = (bl : Int) := ⟨_, rfl⟩
  have HSZ := Lib.hid hsz
  have hwr : IntKind.u32.wrap (bl : Int) = sz := by rw [HSZ.out]; exact IntWalk.u32_in _ (by omega)
  have hwn : IntKind.u32.wrap n = n := IntWalk.u32_in _ (by omega)
  clear hsz hn0 hn1
  go_enter Tryd.func19, Tryd.ntmps19
  go_upto_if 13 with fail
  have HI : Hid (RmInv w (((w.alloc (.cells #[.int .u32 ui, .int .u8 fl, .slice P bl c] 37)).alloc (.cells #[.int .i64 0, .int .u32 0, .string ⟨#[]⟩, .int .i64 0, .string ⟨#[]⟩, .int .i64 0, .int .u8 0, .int .u32 0, .int .u32 0, .slice none 0 0] 26)).alloc (.cells #[.int .i64 4, .int .u32 n, .string ⟨#[]⟩, .int .i64 0, .string ⟨#[]⟩, .int .i64 0, .int .u8 0, .int .u32 0, .int .u32 0, (.slice none 0 0)] 26)) #[.int .u32 ui, .int .u8 fl, .slice P bl c] #[.int .i64 4, .int .u32 n, .string ⟨#[]⟩, .int .i64 0, .string ⟨#[]⟩, .int .i64 0, .int .u8 0, .int .u32 0, .int .u32 0, (.slice none 0 0)]) := Lib.hid ⟨(((Below.refl _ _).alloc (Nat.le_refl _) _).alloc (by rw [World.size_alloc]; omega) _).alloc (by simp only [World.size_alloc]; omega) _, ((Blk.made _ _ _).past _).past _, (by have := Blk.made (w.alloc (.cells #[.int .u32 ui, .int .u8 fl, .slice P bl c] 37)) 26 #[.int .i64 0, .int .u32 0, .string ⟨#[]⟩, .int .i64 0, .string ⟨#[]⟩, .int .i64 0, .int .u8 0, .int .u32 0, .int .u32 0, .slice none 0 0]; rw [World.size_alloc] at this; exact this.past _), by have := Blk.made ((w.alloc (.cells #[.int .u32 ui, .int .u8 fl, .slice P bl c] 37)).alloc (.cells #[.int .i64 0, .int .u32 0, .string ⟨#[]⟩, .int .i64 0, .string ⟨#[]⟩, .int .i64 0, .int .u8 0, .int .u32 0, .int .u32 0, .slice none 0 0] 26)) 26 #[.int .i64 4, .int .u32 n, .string ⟨#[]⟩, .int .i64 0, .string ⟨#[]⟩, .int .i64 0, .int .u8 0, .int .u32 0, .int .u32 0, (.slice none 0 0)]; simp only [World.size_alloc] at this; exact this⟩
  generalize (((w.alloc (.cells #[.int .u32 ui, .int .u8 fl, .slice P bl c] 37)).alloc (.cells #[.int .i64 0, .int .u32 0, .string ⟨#[]⟩, .int .i64 0, .string ⟨#[]⟩, .int .i64 0, .int .u8 0, .int .u32 0, .int .u32 0, .slice none 0 0] 26)).alloc (.cells #[.int .i64 4, .int .u32 n, .string ⟨#[]⟩, .int .i64 0, .string ⟨#[]⟩, .int .i64 0, .int .u8 0, .int .u32 0, .int .u32 0, (.slice none 0 0)] 26)) = wc at *
  go_cut [] (fun wx => RmInv w wx #[.int .u32 ui, .int .u8 fl, .slice P bl c] #[.int .i64 4, .int .u32 n, .string ⟨#[]⟩, .int .i64 0, .string ⟨#[]⟩, .int .i64 (adI 0 b1 1), .int .u8 (selI b1 fl), .int .u32 0, .int .u32 0, (.slice none 0 0)])
  case first =>
    obtain ⟨⟨c0, c1, c2, c3, c4, c5, c6, c7, c8, c9⟩, ⟨z0, z1, z2, z3, z4, z5, z6, z7, z8, z9⟩⟩ := Blk.ten HI.out.2.2.2
    have m0 : wc.cell? ⟨w.heap.size, 0, none⟩ = some (.int .u32 ui) := by rw [HI.out.2.1.cell]; rfl
    have m1 : wc.cell? ⟨w.heap.size, 1, none⟩ = some (.int .u8 fl) := by rw [HI.out.2.1.cell]; rfl
    have m2 : wc.cell? ⟨w.heap.size, 2, none⟩ = some (.slice P bl c) := by rw [HI.out.2.1.cell]; rfl
    cases b1 with
    | true =>
      have hbb := Hb1.out
      go_wp2_with fail
      go_meet
      have hp := (HI.out.put 5 (.int .i64 (0 + 1))).put 6 (.int .u8 fl)
      simp only [List.setIfInBounds_toArray, List.set_cons_zero, List.set_cons_succ] at hp
      exact hp
    | false =>
      have hbb := Hb1.out
      go_wp2_with fail
      go_meet
      exact HI.out
  case rest =>
    have HX : Hid (0 ≤ adI 0 b1 1 ∧ adI 0 b1 1 ≤ 1) := Lib.hid (adI_le (N := 0) b1 (by omega) (by omega) (by omega))
    replace HI := Lib.hid hcut
    clear hcut
    obtain ⟨x1, hx1⟩ : ∃ x : Int, x = adI 0 b1 1 := ⟨_, rfl⟩
    obtain ⟨y1, hy1⟩ : ∃ y : Int, y = selI b1 fl := ⟨_, rfl⟩
    rw [← hx1] at HI HX
    rw [← hy1] at HI
    have HE1 := Lib.hid (And.intro hx1 hy1)
    clear hx1 hy1
    go_upto_if 23 with fail
    go_cut [] (fun wx => RmInv w wx #[.int .u32 ui, .int .u8 fl, .slice P bl c] #[.int .i64 4, .int .u32 n, .string ⟨#[]⟩, .int .i64 0, .string ⟨#[]⟩, .int .i64 (adI x1 b2 2), .int .u8 y1, .int .u32 (selI b2 ui), .int .u32 0, (.slice none 0 0)])
    case first =>
      obtain ⟨⟨c0, c1, c2, c3, c4, c5, c6, c7, c8, c9⟩, ⟨z0, z1, z2, z3, z4, z5, z6, z7, z8, z9⟩⟩ := Blk.ten HI.out.2.2.2
      have m0 : wc.cell? ⟨w.heap.size, 0, none⟩ = some (.int .u32 ui) := by rw [HI.out.2.1.cell]; rfl
      have m1 : wc.cell? ⟨w.heap.size, 1, none⟩ = some (.int .u8 fl) := by rw [HI.out.2.1.cell]; rfl
      have m2 : wc.cell? ⟨w.heap.size, 2, none⟩ = some (.slice P bl c) := by rw [HI.out.2.1.cell]; rfl
      have haw : IntKind.i64.wrap (x1 + 2) = x1 + 2 := by have := HX.out; exact IntWalk.i64_in _ (by omega)
      cases b2 with
      | true =>
        have hbb := Hb2.out
        go_wp2_with fail
        go_meet
        have hp := (HI.out.put 5 (.int .i64 (x1 + 2))).put 7 (.int .u32 ui)
        simp only [List.setIfInBounds_toArray, List.set_cons_zero, List.set_cons_succ] at hp
        exact hp
      | false =>
        have hbb := Hb2.out
        go_wp2_with fail
        go_meet
        exact HI.out
    case rest =>
      replace HX : Hid (0 ≤ adI x1 b2 2 ∧ adI x1 b2 2 ≤ 3) := Lib.hid (adI_le (N := 1) b2 HX.out.1 HX.out.2 (by omega))
      replace HI := Lib.hid hcut
      clear hcut
      obtain ⟨x2, hx2⟩ : ∃ x : Int, x = adI x1 b2 2 := ⟨_, rfl⟩
      obtain ⟨y2, hy2⟩ : ∃ y : Int, y = selI b2 ui := ⟨_, rfl⟩
      rw [← hx2] at HI HX
      rw [← hy2] at HI
      have HE2 := Lib.hid (And.intro hx2 hy2)
      clear hx2 hy2
      go_upto_if 33 with fail
      go_cut [] (fun wx => RmInv w wx #[.int .u32 ui, .int .u8 fl, .slice P bl c] #[.int .i64 4, .int .u32 n, .string ⟨#[]⟩, .int .i64 0, .string ⟨#[]⟩, .int .i64 (adI x2 b4 4), .int .u8 y1, .int .u32 y2, .int .u32 (selI b4 sz), (.slice none 0 0)])
      case first =>
        obtain ⟨⟨c0, c1, c2, c3, c4, c5, c6, c7, c8, c9⟩, ⟨z0, z1, z2, z3, z4, z5, z6, z7, z8, z9⟩⟩ := Blk.ten HI.out.2.2.2
        have m0 : wc.cell? ⟨w.heap.size, 0, none⟩ = some (.int .u32 ui) := by rw [HI.out.2.1.cell]; rfl
        have m1 : wc.cell? ⟨w.heap.size, 1, none⟩ = some (.int .u8 fl) := by rw [HI.out.2.1.cell]; rfl
        have m2 : wc.cell? ⟨w.heap.size, 2, none⟩ = some (.slice P bl c) := by rw [HI.out.2.1.cell]; rfl
        have haw : IntKind.i64.wrap (x2 + 4) = x2 + 4 := by have := HX.out; exact IntWalk.i64_in _ (by omega)
        cases b4 with
        | true =>
          have hbb := Hb4.out
          go_wp2_with fail
          go_meet
          have hp := (HI.out.put 5 (.int .i64 (x2 + 4))).put 8 (.int .u32 sz)
          simp only [List.setIfInBounds_toArray, List.set_cons_zero, List.set_cons_succ] at hp
          exact hp
        | false =>
          have hbb := Hb4.out
          go_wp2_with fail
          go_meet
          exact HI.out
      case rest =>
        replace HX : Hid (0 ≤ adI x2 b4 4 ∧ adI x2 b4 4 ≤ 7) := Lib.hid (adI_le (N := 3) b4 HX.out.1 HX.out.2 (by omega))
        replace HI := Lib.hid hcut
        clear hcut
        obtain ⟨x4, hx4⟩ : ∃ x : Int, x = adI x2 b4 4 := ⟨_, rfl⟩
        obtain ⟨y4, hy4⟩ : ∃ y : Int, y = selI b4 sz := ⟨_, rfl⟩
        rw [← hx4] at HI HX
        rw [← hy4] at HI
        have HE4 := Lib.hid (And.intro hx4 hy4)
        clear hx4 hy4
        go_upto_if 45 with fail
        go_cut [] (fun wx => ∃ pv cv, RmInv w wx #[.int .u32 ui, .int .u8 fl, .slice P bl c] #[.int .i64 4, .int .u32 n, .string ⟨#[]⟩, .int .i64 0, .string ⟨#[]⟩, .int .i64 (adI x4 b16 16), .int .u8 y1, .int .u32 y2, .int .u32 y4, (.slice (selA b16 pv) (selN b16 bl) (selN b16 cv))] ∧ (b16 = true → Buf wx (w.heap.size + 3) 1 (.slice pv bl cv) bl (Lib.byteCells l)))
        case first =>
          obtain ⟨⟨c0, c1, c2, c3, c4, c5, c6, c7, c8, c9⟩, ⟨z0, z1, z2, z3, z4, z5, z6, z7, z8, z9⟩⟩ := Blk.ten HI.out.2.2.2
          have m0 : wc.cell? ⟨w.heap.size, 0, none⟩ = some (.int .u32 ui) := by rw [HI.out.2.1.cell]; rfl
          have m1 : wc.cell? ⟨w.heap.size, 1, none⟩ = some (.int .u8 fl) := by rw [HI.out.2.1.cell]; rfl
          have m2 : wc.cell? ⟨w.heap.size, 2, none⟩ = some (.slice P bl c) := by rw [HI.out.2.1.cell]; rfl
          have haw : IntKind.i64.wrap (x4 + 16) = x4 + 16 := by have := HX.out; exact IntWalk.i64_in _ (by omega)
          cases b16 with
          | false =>
            have hbb := Hb16.out
            go_wp2_with fail
            go_meet
            exact ⟨none, 0, HI.out, fun h => by cases h⟩
          | true =>
            have hbb := Hb16.out
            go_upto_region 13 with fail
            replace HI := Lib.hid (HI.out.put 5 (.int .i64 (x4 + 16)))
            simp only [List.setIfInBounds_toArray, List.set_cons_zero, List.set_cons_succ] at HI
            clear c0 c1 c2 c3 c4 c5 c6 c7 c8 c9 z0 z1 z2 z3 z4 z5 z6 z7 z8 z9 m0 m1 m2
            generalize wc.setCell ⟨w.heap.size + 1 + 1, 5, none⟩ (.int .i64 (x4 + 16)) = wd at *
            replace HI : Hid (RmInv w wd #[.int .u32 ui, .int .u8 fl, .slice P bl c] #[.int .i64 4, .int .u32 n, .string ⟨#[]⟩, .int .i64 0, .string ⟨#[]⟩, .int .i64 (x4 + 16), .int .u8 y1, .int .u32 y2, .int .u32 y4, (.slice none 0 0)]) := Lib.hid HI.out
            have m2 : (wd.alloc (.cells #[] 5)).cell? ⟨w.heap.size, 2, none⟩ = some (.slice P bl c) := by rw [(HI.out.2.1.past _).cell]; rfl
            obtain ⟨p2, c2, we, hrun, hc2, hbuf, hb1⟩ := HOC.out wd HI.out.1
            have hbf := hbuf.mono (base' := w.heap.size + 3) (by have := HI.out.2.2.2.lt; omega)
            replace HI := Lib.hid (HI.out.below hb1)
            have HRUN := Lib.hid hrun
            have HBY := Lib.hid hbf
            have cx9 : we.cell? ⟨w.heap.size + 2, 9, none⟩ = some (.slice none 0 0) := by rw [HI.out.2.2.2.cell]; rfl
            have zx9 : we.frozen? ⟨w.heap.size + 2, 9, none⟩ = false := HI.out.2.2.2.frz 9
            clear hrun hbuf hb1 hbf
            go_wp2_with (at_builtin; refine wpList_append_run _ rfl (.tmp 50) (.tmp 52) _ _ rfl _ _ rfl rfl _ _ HRUN.out ?_)
            go_meet
            have hp := HI.out.put 9 (.slice p2 bl c2)
            simp only [List.setIfInBounds_toArray, List.set_cons_zero, List.set_cons_succ] at hp
            exact ⟨p2, c2, hp, fun _ => HBY.out.farB (by show w.heap.size + 2 < w.heap.size + 3; omega) _⟩
        case rest =>
          obtain ⟨pv, cv, hi, hby⟩ := hcut
          have HBY := Lib.hid hby
          have HI := Lib.hid hi
          obtain ⟨px, hpx⟩ : ∃ x, x = selA b16 pv := ⟨_, rfl⟩
          obtain ⟨bx, hbx⟩ : ∃ x, x = selN b16 bl := ⟨_, rfl⟩
          obtain ⟨cx, hcx⟩ : ∃ x, x = selN b16 cv := ⟨_, rfl⟩
          obtain ⟨x, hx⟩ : ∃ x, x = adI x4 b16 16 := ⟨_, rfl⟩
          rw [← hpx, ← hbx, ← hcx, ← hx] at HI
          have HEE := Lib.hid (And.intro hx (And.intro hpx (And.intro hbx hcx)))
          clear hi hby hpx hbx hcx hx
          obtain ⟨⟨c0, c1, c2, c3, c4, c5, c6, c7, c8, c9⟩, -⟩ := Blk.ten HI.out.2.2.2
          obtain ⟨⟨d0, d1, d2, d3, d4, d5, d6, d7, d8, d9⟩, ⟨z0, z1, z2, z3, z4, z5, z6, z7, z8, z9⟩⟩ := Blk.ten HI.out.2.2.1
          go_wp2_with fail
          have hp := ((((((((((HI.out.2.2.1.put 0 (.int .i64 4)).put 1 (.int .u32 n)).put 2 (.string ⟨#[]⟩)).put 3 (.int .i64 0)).put 4 (.string ⟨#[]⟩)).put 5 (.int .i64 x)).put 6 (.int .u8 y1)).put 7 (.int .u32 y2)).put 8 (.int .u32 y4)).put 9 (.slice px bx cx))
          simp only [List.setIfInBounds_toArray, List.set_cons_zero, List.set_cons_succ] at hp
          refine bodyPost_ret (v := .agg #[.int .i64 4, .int .u32 n, .string ⟨#[]⟩, .int .i64 0, .string ⟨#[]⟩, .int .i64 x, .int .u8 y1, .int .u32 y2, .int .u32 y4, .slice px bx cx]) (results_ten1 (by rfl) (by rfl) hp) rfl ⟨pv, cv, ?_, ?_, ?_⟩
          · obtain ⟨rfl, rfl, rfl, rfl⟩ := HEE.out
            obtain ⟨rfl, rfl⟩ := HE1.out
            obtain ⟨rfl, rfl⟩ := HE2.out
            obtain ⟨rfl, rfl⟩ := HE4.out
            obtain rfl := HSZ.out
            rw [HBL.out]; rfl
          · intro h
            have hb := HBY.out h
            rw [← HBL.out] at hb
            refine bys_of_buf (cv := cv) (base := w.heap.size + 3) ?_
            (repeat with_reducible refine Buf.farB ?_ (by dsimp only; omega) _)
            exact hb
          · (repeat with_reducible refine Below.setCell ?_ (by dsimp only; omega) _)
            exact HI.out.1
end Go.Proofs.YtgdhakkfddmkjaaDoor
namespace Go.Proofs.YtgdhakkfddmkjaaDoor
open Go.RowKit

/-- The n bytes lie in a block from lo on, below hi, and may be written. -/
def Wrt (W : World) (lo hi : Nat) (px : Option Addr) (n : Nat) : Prop :=
  0 < n → ∃ b o, px = some ⟨b, o, none⟩ ∧ lo ≤ b ∧ b < hi ∧ ∀ i, i < n → ∃ u : Int, W.cell? ⟨b, o + i, none⟩ = some (.int .u8 u) ∧ W.frozen? ⟨b, o + i, none⟩ = false
theorem Wrt.keep {W W' : World} {lo hi n B : Nat} {px : Option Addr} (h : Wrt W lo hi px n) (hb : Below B W W') (hB : hi ≤ B) : Wrt W' lo hi px n := fun h0 => by
  obtain ⟨b, o, e, h1, h2, h3⟩ := h h0
  refine ⟨b, o, e, h1, h2, fun i hi => ?_⟩
  obtain ⟨u, c, f⟩ := h3 i hi
  have e : W'.heap[b]? = W.heap[b]? := hb.block b (by omega)
  exact ⟨u, by rw [World.cell?_of_block (a := ⟨b, o + i, none⟩) e]; exact c, by rw [World.frozen?_of_block (a := ⟨b, o + i, none⟩) e]; exact f⟩
theorem Wrt.drew {W : World} {lo hi n : Nat} {px : Option Addr} (h : Wrt W lo hi px n) : Wrt W.drew lo hi px n := h
theorem Wrt.of_buf {W : World} {lo n c : Nat} {px : Option Addr} {l : List UInt8} (h : Buf W lo 1 (.slice px n c) n (Lib.byteCells l)) (hl : l.length = n) : Wrt W lo W.heap.size px n := fun h0 => by
  rcases h.2 with ⟨e, _⟩ | ⟨g, off, cap, e, hg, hlt, hnc, hc, hf⟩
  · injection e with e1 e2; omega
  · injection e with e1 e2 e3
    refine ⟨g, off, e1, hg, hlt, fun i hi => ⟨(l[i]'(by omega)).toNat, ?_, (hf i (by omega)).2⟩⟩
    refine hc i _ ?_
    simp [Lib.byteCells, List.getElem?_eq_getElem (show i < l.length by omega)]
theorem Wrt.put {W : World} {lo hi n b o i : Nat} (h : Wrt W lo hi (some ⟨b, o, none⟩) n) (v : Int) : Wrt (W.setCell ⟨b, o + i, none⟩ (.int .u8 v)) lo hi (some ⟨b, o, none⟩) n := fun h0 => by
  obtain ⟨b', o', e, h1, h2, h3⟩ := h h0
  injection e with e
  injection e with e1 e2
  subst e1 e2
  refine ⟨b, o, rfl, h1, h2, fun j hj => ?_⟩
  obtain ⟨u, c, f⟩ := h3 j hj
  by_cases e : j = i
  · subst e
    exact ⟨v, World.cell?_setCell_same _ _ _ c, by rw [World.frozen?_setCell]; exact f⟩
  · refine ⟨u, ?_, by rw [World.frozen?_setCell]; exact f⟩
    have hne : (⟨b, o + i, none⟩ : Addr) ≠ ⟨b, o + j, none⟩ := fun e2 => e (by injection e2 with _ e3 _; omega)
    rw [World.cell?_setCell_other _ _ _ _ hne]
    exact c
theorem Wrt.far {W : World} {lo hi n : Nat} {px : Option Addr} {p : Addr} (h : Wrt W lo hi px n) (hp : hi ≤ p.block) (v : Value) : Wrt (W.setCell p v) lo hi px n := fun h0 => by
  obtain ⟨b', o', e, h1, h2, h3⟩ := h h0
  refine ⟨b', o', e, h1, h2, fun j hj => ?_⟩
  obtain ⟨u, c, f⟩ := h3 j hj
  exact ⟨u, by rw [World.cell?_setCell_far _ _ _ _ (by show p.block ≠ b'; omega)]; exact c, by rw [World.frozen?_setCell]; exact f⟩
theorem Wrt.sel {W : World} {lo hi n : Nat} {px : Option Addr} (b : Bool) (h : Wrt W lo hi px n) : Wrt W lo hi (if b then px else none) (if b then n else 0) := by
  cases b
  · exact fun h0 => absurd h0 (by simp)
  · exact h
end Go.Proofs.YtgdhakkfddmkjaaDoor
