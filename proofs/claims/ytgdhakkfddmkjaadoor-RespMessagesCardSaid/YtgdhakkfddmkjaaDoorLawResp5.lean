/- The walk of the law RespMessages. -/
import Derived.Deep.RegionHeld3
import Derived.Test.YtgdhakkfddmkjaaDoorJ13
import Derived.Test.YtgdhakkfddmkjaaDoorJ27
import Derived.Test.YtgdhakkfddmkjaaDoorJ3
set_option linter.unusedVariables false
set_option linter.unusedSimpArgs false
namespace Go.Proofs.YtgdhakkfddmkjaaDoor
open Go.RowKit

theorem keep13 {W : World} {s g : Nat} {t t' : TypeId} {a0 a1 a2 a3 a4 a5 a6 a7 a8 a9 m0 m1 m2 : Value} (hm : Blk W s t' #[m0, m1, m2]) (h : Blk W g t #[a0, a1, a2, a3, a4, a5, a6, a7, a8, a9]) :
    W.cell? ⟨s, 0, none⟩ = some m0 ∧ W.cell? ⟨s, 1, none⟩ = some m1 ∧ W.cell? ⟨s, 2, none⟩ = some m2 ∧ W.cell? ⟨g, 0, none⟩ = some a0 ∧ W.cell? ⟨g, 1, none⟩ = some a1 ∧ W.cell? ⟨g, 2, none⟩ = some a2 ∧ W.cell? ⟨g, 3, none⟩ = some a3 ∧ W.cell? ⟨g, 4, none⟩ = some a4 ∧ W.cell? ⟨g, 5, none⟩ = some a5 ∧ W.cell? ⟨g, 6, none⟩ = some a6 ∧ W.cell? ⟨g, 7, none⟩ = some a7 ∧ W.cell? ⟨g, 8, none⟩ = some a8 ∧ W.cell? ⟨g, 9, none⟩ = some a9 := by
  refine ⟨?_, ?_, ?_, ?_, ?_, ?_, ?_, ?_, ?_, ?_, ?_, ?_, ?_⟩
  all_goals first
    | (rw [hm.cell]; rfl)
    | (rw [h.cell]; rfl)

/-- What stands in the law's walk. -/
def MgX (w : World) (g lo n : Nat) (m row : Array Value) (p2 px : Option Addr) (l : List UInt8) (wx : World) : Prop :=
  Below w.heap.size w wx ∧ Blk wx w.heap.size 37 m ∧ Blk wx g 26 row ∧ Bys wx lo p2 l ∧ Wrt wx lo g px n ∧ lo ≤ g ∧ w.heap.size < lo
theorem MgX.below {w wx wy : World} {g lo n : Nat} {m row : Array Value} {p2 px : Option Addr} {l : List UInt8} (h : MgX w g lo n m row p2 px l wx) (hb : Below wx.heap.size wx wy) : MgX w g lo n m row p2 px l wy := by
  obtain ⟨h1, h2, h3, h4, h5, h6, h7⟩ := h
  have := h3.lt
  exact ⟨below_call h1 hb, Blk.below h2 hb h2.lt, Blk.below h3 hb h3.lt, h4.belowle hb (by omega), h5.keep hb (by omega), h6, h7⟩
theorem MgX.drew {w wx : World} {g lo n : Nat} {m row : Array Value} {p2 px : Option Addr} {l : List UInt8} (h : MgX w g lo n m row p2 px l wx) : MgX w g lo n m row p2 px l wx.drew := ⟨h.1.drew, h.2.1, h.2.2.1, h.2.2.2.1, h.2.2.2.2.1, h.2.2.2.2.2.1, h.2.2.2.2.2.2⟩
theorem keepX {w W : World} {g lo n : Nat} {a0 a1 a2 a3 a4 a5 a6 a7 a8 a9 m0 m1 m2 : Value} {p2 px : Option Addr} {l : List UInt8} (h : MgX w g lo n #[m0, m1, m2] #[a0, a1, a2, a3, a4, a5, a6, a7, a8, a9] p2 px l W) :
    W.cell? ⟨w.heap.size, 0, none⟩ = some m0 ∧ W.cell? ⟨w.heap.size, 1, none⟩ = some m1 ∧ W.cell? ⟨w.heap.size, 2, none⟩ = some m2 ∧ W.cell? ⟨g, 0, none⟩ = some a0 ∧ W.cell? ⟨g, 1, none⟩ = some a1 ∧ W.cell? ⟨g, 2, none⟩ = some a2 ∧ W.cell? ⟨g, 3, none⟩ = some a3 ∧ W.cell? ⟨g, 4, none⟩ = some a4 ∧ W.cell? ⟨g, 5, none⟩ = some a5 ∧ W.cell? ⟨g, 6, none⟩ = some a6 ∧ W.cell? ⟨g, 7, none⟩ = some a7 ∧ W.cell? ⟨g, 8, none⟩ = some a8 ∧ W.cell? ⟨g, 9, none⟩ = some a9 := keep13 h.2.1 h.2.2.1
theorem MgX.put {w wx : World} {g lo n b o i : Nat} {m row : Array Value} {p2 : Option Addr} {l : List UInt8} (h : MgX w g lo n m row p2 (some ⟨b, o, none⟩) l wx) (hb : lo ≤ b) (hb2 : b < g) (v : Int) : MgX w g lo n m row p2 (some ⟨b, o, none⟩) l (wx.setCell ⟨b, o + i, none⟩ (.int .u8 v)) := by
  obtain ⟨h1, h2, h3, h4, h5, h6, h7⟩ := h
  exact ⟨h1.setCell (by show w.heap.size ≤ b; omega) _, h2.far (by show w.heap.size ≠ b; omega) _, h3.far (by show g ≠ b; omega) _, h4.keep (fun q hq => World.cell?_setCell_far _ _ _ _ (by show b ≠ q.block; omega)), h5.put v, h6, h7⟩

set_option maxRecDepth 100000 in
set_option maxHeartbeats 6400000 in
theorem messages_core (sq i nn ui fl x fx ux sx : Int) (P : Option Addr) (l : List UInt8) (c bx : Nat) (b16 vv : Bool) (w : World) (hsq0 : 0 ≤ sq) (hsq1 : sq < 4294967296) (hi0 : 0 ≤ i) (hi1 : i < 256) (hf0 : 0 ≤ fl) (hf1 : fl < 256) (hnn : i.tmod 32 = nn) (hn0 : 0 ≤ nn) (hn1 : nn < 32) (hlm : l.length ≤ 9223372036854775807) (hlc : l.length ≤ c) (hbx : bx = selN b16 l.length)
    (hb : Bys w w.heap.size P l) (hvv : decide (0 < nn) = vv)
    (hal : ∀ W, Below w.heap.size w W → Calls Tryd.prog 10 #[] W fun e w' => e = .returned (.bool true) ∧ Below W.heap.size W w')
    (hms : l.length ≤ 500 → ∀ W P' c', Below w.heap.size w W → Bys W W.heap.size P' l → (P' = none → l.length = 0 ∧ c' = 0) → Calls Tryd.prog 18 #[.int .i64 sq, .int .i64 nn, .agg #[.int .u32 ui, .int .u8 fl, .slice P' l.length c']] W fun e w' => ∃ pv cv, e = .returned (.agg (outC 4 sq x fx ux sx (.slice (selA b16 pv) bx (selN b16 cv)))) ∧ Buf w' W.heap.size 1 (.slice pv l.length cv) l.length (Lib.byteCells l) ∧ Below W.heap.size W w')
    (hrm : l.length ≤ 500 → ∀ W, Below w.heap.size w W → Calls Tryd.prog 19 #[.int .i64 sq, .int .i64 nn, .agg #[.int .u32 ui, .int .u8 fl, .slice P l.length c]] W fun e w' => ∃ pv cv, e = .returned (.agg (outC 4 sq x fx ux sx (.slice (selA b16 pv) bx (selN b16 cv)))) ∧ (b16 = true → Bys w' w'.heap.size pv l) ∧ Below W.heap.size W w')
    (hsm : l.length ≤ 500 → ∀ W p c p' c', (b16 = true → Bys W W.heap.size p l) → (b16 = true → Bys W W.heap.size p' l) → Calls Tryd.prog 15 #[.agg (outC 4 sq x fx ux sx (.slice (selA b16 p) bx (selN b16 c))), .agg (outC 4 sq x fx ux sx (.slice (selA b16 p') bx (selN b16 c')))] W fun e w' => e = .returned (.bool true) ∧ Below W.heap.size W w')
    (hvl : l.length ≤ 500 → fl ≤ 31 → ∀ W p c, (b16 = true → Bys W W.heap.size p l) → Calls Tryd.prog 13 #[.agg (outC 4 sq x fx ux sx (.slice (selA b16 p) bx (selN b16 c)))] W fun e w' => e = .returned (.bool vv) ∧ Below W.heap.size W w') :
    Calls Tryd.prog 5 #[.int .u32 sq, .int .u8 i, .agg #[.int .u32 ui, .int .u8 fl, .slice P l.length c]] w fun e w' => e = .returned (.bool true) ∧ Below w.heap.size w w' := by
  have HAL := Lib.hid hal
  have HMS := Lib.hid hms
  have HRM := Lib.hid hrm
  have HSM := Lib.hid hsm
  have HVL := Lib.hid hvl
  have HBX := Lib.hid hbx
  have HBY := Lib.hid hb
  have HVV := Lib.hid hvv
  have HOC := Lib.hid (fun (h : l.length ≤ 500) W (hW : Below w.heap.size w W) => own_copy W P c l ((hb.below hW).more hW.size) (by omega))
  have hwi : IntKind.i64.wrap i = i := IntWalk.i64_in _ (by omega)
  have hws : IntKind.i64.wrap sq = sq := IntWalk.i64_in _ (by omega)
  have hwn : IntKind.i64.wrap nn = nn := IntWalk.i64_in _ (by omega)
  clear hal hms hrm hsm hvl hbx hb hvv hi0 hi1
  generalize hbl : l.length = bl at *
  have HBL := Lib.hid hbl
  clear hbl
  have HI : Hid (Below w.heap.size w (w.alloc (.cells #[.int .u32 ui, .int .u8 fl, .slice P bl c] 37)) ∧ Blk (w.alloc (.cells #[.int .u32 ui, .int .u8 fl, .slice P bl c] 37)) w.heap.size 37 #[.int .u32 ui, .int .u8 fl, .slice P bl c]) := Lib.hid ⟨(Below.refl _ _).alloc (Nat.le_refl _) _, Blk.made _ _ _⟩
  go_enter Tryd.func5, Tryd.ntmps5
  go_upto_region 2 with fail
  generalize w.alloc (.cells #[.int .u32 ui, .int .u8 fl, .slice P bl c] 37) = w0 at *
  have m0 : w0.cell? ⟨w.heap.size, 0, none⟩ = some (.int .u32 ui) := by rw [HI.out.2.cell]; rfl
  have m1 : w0.cell? ⟨w.heap.size, 1, none⟩ = some (.int .u8 fl) := by rw [HI.out.2.cell]; rfl
  have m2 : w0.cell? ⟨w.heap.size, 2, none⟩ = some (.slice P bl c) := by rw [HI.out.2.cell]; rfl
  by_cases hbl5 : (bl : Int) ≤ 500
  case neg =>
    go_wp2_with fail
    refine (HAL.out _ HI.out.1).mono ?_
    rintro e w1 ⟨rfl, hb⟩
    have HB := Lib.hid (below_call HI.out.1 hb)
    clear hb
    go_wp2_with fail
    go_ret
    exact ⟨rfl, HB.out⟩
  by_cases hfl : fl ≤ 31
  case neg =>
    go_wp2_with fail
    refine (HAL.out _ HI.out.1).mono ?_
    rintro e w1 ⟨rfl, hb⟩
    have HB := Lib.hid (below_call HI.out.1 hb)
    clear hb
    go_wp2_with fail
    go_ret
    exact ⟨rfl, HB.out⟩
  have h5 : bl ≤ 500 := by omega
  replace HMS := Lib.hid (HMS.out h5)
  replace HRM := Lib.hid (HRM.out h5)
  replace HSM := Lib.hid (HSM.out h5)
  replace HVL := Lib.hid (HVL.out h5 hfl)
  obtain ⟨p2, c2, we, hrun, hc2, hbuf, hb1⟩ := HOC.out h5 w0 HI.out.1
  clear HOC
  have HRUN := Lib.hid hrun
  have HIE : Hid (Below w.heap.size w we ∧ Blk we w.heap.size 37 #[.int .u32 ui, .int .u8 fl, .slice P bl c] ∧ Buf we w0.heap.size 1 (.slice p2 bl c2) bl (Lib.byteCells l)) := Lib.hid ⟨below_call HI.out.1 hb1, Blk.below HI.out.2 hb1 HI.out.2.lt, hbuf⟩
  clear hrun hbuf hb1
  have m2b : (w0.alloc (.cells #[] 5)).cell? ⟨w.heap.size, 2, none⟩ = some (.slice P bl c) := by rw [(HI.out.2.past _).cell]; rfl
  have e0 : we.cell? ⟨w.heap.size, 0, none⟩ = some (.int .u32 ui) := by rw [HIE.out.2.1.cell]; rfl
  have e1 : we.cell? ⟨w.heap.size, 1, none⟩ = some (.int .u8 fl) := by rw [HIE.out.2.1.cell]; rfl
  have e2 : we.cell? ⟨w.heap.size, 2, none⟩ = some (.slice P bl c) := by rw [HIE.out.2.1.cell]; rfl
  go_upto_region 7 with (at_builtin; refine wpList_append_run _ rfl (.tmp 25) (.tmp 27) _ _ rfl _ _ rfl rfl _ _ HRUN.out ?_)
  have HF : Hid (Below w.heap.size w (we.alloc (.cells #[.int .u32 ui, .int .u8 fl, .slice p2 bl c2] 37)) ∧ Blk (we.alloc (.cells #[.int .u32 ui, .int .u8 fl, .slice p2 bl c2] 37)) w.heap.size 37 #[.int .u32 ui, .int .u8 fl, .slice P bl c] ∧ Blk (we.alloc (.cells #[.int .u32 ui, .int .u8 fl, .slice p2 bl c2] 37)) we.heap.size 37 #[.int .u32 ui, .int .u8 fl, .slice p2 bl c2] ∧ Buf (we.alloc (.cells #[.int .u32 ui, .int .u8 fl, .slice p2 bl c2] 37)) w0.heap.size 1 (.slice p2 bl c2) bl (Lib.byteCells l)) := Lib.hid ⟨below_new HIE.out.1 _, HIE.out.2.1.past _, Blk.made _ _ _, HIE.out.2.2.past _⟩
  clear e0 e1 e2 m0 m1 m2 m2b HRUN HIE HI
  generalize we.heap.size = g9 at *
  generalize (we.alloc (.cells #[.int .u32 ui, .int .u8 fl, .slice p2 bl c2] 37)) = wf at *
  have HP2 : Hid (p2 = none → bl = 0 ∧ c2 = 0) := Lib.hid (by
    intro e
    rcases HF.out.2.2.2.2 with ⟨e2, h⟩ | ⟨g, o, k, e2, _⟩
    · injection e2 with e3 e4 e5; exact ⟨h, e5⟩
    · injection e2 with e3 e4 e5; rw [e] at e3; cases e3)
  have HY2 : Hid (Bys wf wf.heap.size p2 l) := Lib.hid (by
    have h := HF.out.2.2.2
    rw [← HBL.out] at h
    exact bys_of_buf h)
  have f0 : wf.cell? ⟨g9, 0, none⟩ = some (.int .u32 ui) := by rw [HF.out.2.2.1.cell]; rfl
  have f1 : wf.cell? ⟨g9, 1, none⟩ = some (.int .u8 fl) := by rw [HF.out.2.2.1.cell]; rfl
  have f2 : wf.cell? ⟨g9, 2, none⟩ = some (.slice p2 bl c2) := by rw [HF.out.2.2.1.cell]; rfl
  go_wp2_with fail
  refine (HMS.out wf p2 c2 HF.out.1 HY2.out HP2.out).mono ?_
  rintro e w5 ⟨pv, cv, rfl, hbuf5, hb5⟩
  have H6 : Hid (MgX w w5.heap.size wf.heap.size bx #[.int .u32 ui, .int .u8 fl, .slice P bl c] (outC 4 sq x fx ux sx (.slice (selA b16 pv) bx (selN b16 cv))) p2 (selA b16 pv) l (w5.alloc (.cells (outC 4 sq x fx ux sx (.slice (selA b16 pv) bx (selN b16 cv))) 26)) ∧ (b16 = true → Bys (w5.alloc (.cells (outC 4 sq x fx ux sx (.slice (selA b16 pv) bx (selN b16 cv))) 26)) w5.heap.size pv l)) := Lib.hid (by
    have hlo : w.heap.size < wf.heap.size := HF.out.2.1.lt
    have hw := Wrt.of_buf hbuf5 HBL.out
    have hby : Bys w5 w5.heap.size pv l := by
      have h := hbuf5
      rw [← HBL.out] at h
      exact bys_of_buf h
    refine ⟨⟨below_new (below_call HF.out.1 hb5) _, (Blk.below HF.out.2.1 hb5 HF.out.2.1.lt).past _, Blk.made _ _ _, (HY2.out.below hb5).past hb5.size _, ?_, hb5.size, hlo⟩, fun _ => hby.past (Nat.le_refl _) _⟩
    rw [HBX.out]
    exact Wrt.keep (Wrt.sel b16 hw) ((Below.refl _ _).alloc (Nat.le_refl _) _) (Nat.le_refl _))
  clear hbuf5 hb5 HF HP2 HY2 f0 f1 f2
  unfold outC at H6 ⊢
  unfold outC at HRM HSM HVL
  obtain ⟨px, hpx⟩ : ∃ x, x = selA b16 pv := ⟨_, rfl⟩
  obtain ⟨cx, hcx⟩ : ∃ x, x = selN b16 cv := ⟨_, rfl⟩
  rw [← hpx, ← hcx] at H6 ⊢
  have HPX := Lib.hid (And.intro hpx hcx)
  clear hpx hcx
  go_upto_region 8 with fail
  generalize (w5.alloc (.cells #[.int .i64 4, .int .u32 sq, .string ⟨#[]⟩, .int .i64 0, .string ⟨#[]⟩, .int .i64 x, .int .u8 fx, .int .u32 ux, .int .u32 sx, .slice px bx cx] 26)) = w6 at *
  generalize wf.heap.size = lo at *
  generalize w5.heap.size = g at *
  go_cut [51] (fun v wx => v = .bool false ∧ MgX w g lo bx #[.int .u32 ui, .int .u8 fl, .slice P bl c] #[.int .i64 4, .int .u32 sq, .string ⟨#[]⟩, .int .i64 0, .string ⟨#[]⟩, .int .i64 x, .int .u8 fx, .int .u32 ux, .int .u32 sx, .slice px bx cx] p2 px l wx)
  case first =>
    have hvf : (vv != decide (0 < nn)) = false := by rw [HVV.out, bne_self_eq_false]
    refine wp_region_noPanic ?_
    refine wp_region_held_drew (S := (fun W => W.cell? ⟨w.heap.size, 0, none⟩ = some (.int .u32 ui) ∧ W.cell? ⟨w.heap.size, 1, none⟩ = some (.int .u8 fl) ∧ W.cell? ⟨w.heap.size, 2, none⟩ = some (.slice P bl c) ∧ W.cell? ⟨g, 0, none⟩ = some (.int .i64 4) ∧ W.cell? ⟨g, 1, none⟩ = some (.int .u32 sq) ∧ W.cell? ⟨g, 2, none⟩ = some (.string ⟨#[]⟩) ∧ W.cell? ⟨g, 3, none⟩ = some (.int .i64 0) ∧ W.cell? ⟨g, 4, none⟩ = some (.string ⟨#[]⟩) ∧ W.cell? ⟨g, 5, none⟩ = some (.int .i64 x) ∧ W.cell? ⟨g, 6, none⟩ = some (.int .u8 fx) ∧ W.cell? ⟨g, 7, none⟩ = some (.int .u32 ux) ∧ W.cell? ⟨g, 8, none⟩ = some (.int .u32 sx) ∧ W.cell? ⟨g, 9, none⟩ = some (.slice px bx cx))) (by kernel_rfl) ?_ (fun hHeldA => ?_)
    · first | (dsimp only; ((refine keepX (w := w) (lo := lo) (n := bx) (p2 := p2) (px := px) (l := l) ?_; (repeat with_reducible refine MgX.drew ?_); first | with_reducible exact HE9.out | with_reducible exact HE8.out.1 | with_reducible exact HE7.out.1 | with_reducible exact H6.out.1))) | ((refine keepX (w := w) (lo := lo) (n := bx) (p2 := p2) (px := px) (l := l) ?_; (repeat with_reducible refine MgX.drew ?_); first | with_reducible exact HE9.out | with_reducible exact HE8.out.1 | with_reducible exact HE7.out.1 | with_reducible exact H6.out.1))
    refine wpAnyH_take (i := 0) (v := ?_) rfl (by kernel_rfl) (by kernel_rfl) (by kernel_rfl) (fun _ _ _ h => h) (Or.inl ⟨by rfl, ?_⟩) (by assumption) ?_
    rotate_left
    · intro w hSw
      try dsimp only at hSw
      go_simp
      try with_reducible rfl
    try simp only [List.getElem_toArray, List.getElem_cons_zero, List.getElem_cons_succ, Act.put, List.setIfInBounds_toArray, List.set_cons_zero, List.set_cons_succ]
    refine wpAnyH_take (i := 1) (v := ?_) rfl (by kernel_rfl) (by kernel_rfl) (by kernel_rfl) (fun _ _ _ h => h) (Or.inl ⟨by rfl, ?_⟩) (by assumption) ?_
    rotate_left
    · intro w hSw
      try dsimp only at hSw
      go_simp
      try with_reducible rfl
    try simp only [List.getElem_toArray, List.getElem_cons_zero, List.getElem_cons_succ, Act.put, List.setIfInBounds_toArray, List.set_cons_zero, List.set_cons_succ]
    refine wpAnyH_take (i := 2) (v := ?_) rfl (by kernel_rfl) (by kernel_rfl) (by kernel_rfl) (fun _ _ _ h => h) (Or.inl ⟨by rfl, ?_⟩) (by assumption) ?_
    rotate_left
    · intro w hSw
      try dsimp only at hSw
      go_simp
      try with_reducible rfl
    try simp only [List.getElem_toArray, List.getElem_cons_zero, List.getElem_cons_succ, Act.put, List.setIfInBounds_toArray, List.set_cons_zero, List.set_cons_succ]
    refine wpAnyH_take (i := 3) (v := ?_) rfl (by kernel_rfl) (by kernel_rfl) (by kernel_rfl) (fun _ _ _ h => h) (Or.inl ⟨by rfl, ?_⟩) (by assumption) ?_
    rotate_left
    · intro w hSw
      try dsimp only at hSw
      go_simp
      try with_reducible rfl
    try simp only [List.getElem_toArray, List.getElem_cons_zero, List.getElem_cons_succ, Act.put, List.setIfInBounds_toArray, List.set_cons_zero, List.set_cons_succ]
    refine wpAnyH_take (i := 4) (v := ?_) rfl (by kernel_rfl) (by kernel_rfl) (by kernel_rfl) (fun _ _ _ h => h) (Or.inl ⟨by rfl, ?_⟩) (by assumption) ?_
    rotate_left
    · intro w hSw
      try dsimp only at hSw
      go_simp
      try with_reducible rfl
    try simp only [List.getElem_toArray, List.getElem_cons_zero, List.getElem_cons_succ, Act.put, List.setIfInBounds_toArray, List.set_cons_zero, List.set_cons_succ]
    refine wpAnyH_ready (rs := [5]) (by kernel_rfl) (by simp) ?_
    refine AllReadyH.cons rfl (fun K hK => ?_) AllReadyH.nil
    try simp only [List.getElem_toArray, List.getElem_cons_zero, List.getElem_cons_succ]
    go_simp
    (first
        | (go_at_call 19; refine (HRM.out _ (Below.drew H6.out.1.1)).mono ?_; rintro e w7 ⟨pv2, cv2, rfl, hby7, hb7⟩; have HE7 : Hid (MgX w g lo bx #[.int .u32 ui, .int .u8 fl, .slice P bl c] #[.int .i64 4, .int .u32 sq, .string ⟨#[]⟩, .int .i64 0, .string ⟨#[]⟩, .int .i64 x, .int .u8 fx, .int .u32 ux, .int .u32 sx, .slice px bx cx] p2 px l w7 ∧ (b16 = true → Bys w7 w7.heap.size pv l) ∧ (b16 = true → Bys w7 w7.heap.size pv2 l)) := Lib.hid ⟨(MgX.drew H6.out.1).below hb7, fun h => ((H6.out.2 h).drew.belowle hb7 (Nat.le_of_lt H6.out.1.2.2.1.lt)).more (Nat.le_trans (Nat.le_of_lt H6.out.1.2.2.1.lt) hb7.size), hby7⟩; clear hb7 hby7; obtain ⟨py, hpy⟩ : ∃ x, x = selA b16 pv2 := ⟨_, rfl⟩; obtain ⟨cy, hcy⟩ : ∃ x, x = selN b16 cv2 := ⟨_, rfl⟩; rw [← hpy, ← hcy]; have HPY := Lib.hid (And.intro hpy hcy); clear hpy hcy)
        | (go_at_call 15; have hsame := HSM.out _ pv cv pv2 cv2 HE7.out.2.1 HE7.out.2.2; rw [← HPX.out.1, ← HPX.out.2, ← HPY.out.1, ← HPY.out.2] at hsame; refine hsame.mono ?_; clear hsame; rintro e w8 ⟨rfl, hb8⟩; have HE8 : Hid (MgX w g lo bx #[.int .u32 ui, .int .u8 fl, .slice P bl c] #[.int .i64 4, .int .u32 sq, .string ⟨#[]⟩, .int .i64 0, .string ⟨#[]⟩, .int .i64 x, .int .u8 fx, .int .u32 ux, .int .u32 sx, .slice px bx cx] p2 px l w8 ∧ (b16 = true → Bys w8 w8.heap.size pv l)) := Lib.hid ⟨HE7.out.1.below hb8, fun h => ((HE7.out.2.1 h).below hb8).more hb8.size⟩; clear hb8)
        | (go_at_call 13; have hvld := HVL.out _ pv cv HE8.out.2; rw [← HPX.out.1, ← HPX.out.2] at hvld; refine hvld.mono ?_; clear hvld; rintro e w9 ⟨rfl, hb9⟩; have HE9 : Hid (MgX w g lo bx #[.int .u32 ui, .int .u8 fl, .slice P bl c] #[.int .i64 4, .int .u32 sq, .string ⟨#[]⟩, .int .i64 0, .string ⟨#[]⟩, .int .i64 x, .int .u8 fx, .int .u32 ux, .int .u32 sx, .slice px bx cx] p2 px l w9) := Lib.hid (HE8.out.1.below hb9); clear hb9))
    first | (with_reducible refine hK.out _ _ ?_ (fun hHeldB => ?_)) | (go_wp2_with fail; refine hK.out _ _ ?_ (fun hHeldB => ?_))
    · first | (dsimp only; ((refine keepX (w := w) (lo := lo) (n := bx) (p2 := p2) (px := px) (l := l) ?_; (repeat with_reducible refine MgX.drew ?_); first | with_reducible exact HE9.out | with_reducible exact HE8.out.1 | with_reducible exact HE7.out.1 | with_reducible exact H6.out.1))) | ((refine keepX (w := w) (lo := lo) (n := bx) (p2 := p2) (px := px) (l := l) ?_; (repeat with_reducible refine MgX.drew ?_); first | with_reducible exact HE9.out | with_reducible exact HE8.out.1 | with_reducible exact HE7.out.1 | with_reducible exact H6.out.1))
    clear hK K hHeldA
    try simp only [Act.put, List.setIfInBounds_toArray, List.set_cons_zero, List.set_cons_succ]
    refine wpAnyH_ready (rs := [6]) (by kernel_rfl) (by simp) ?_
    refine AllReadyH.cons rfl (fun K hK => ?_) AllReadyH.nil
    try simp only [List.getElem_toArray, List.getElem_cons_zero, List.getElem_cons_succ]
    go_simp
    (first
        | (go_at_call 19; refine (HRM.out _ (Below.drew H6.out.1.1)).mono ?_; rintro e w7 ⟨pv2, cv2, rfl, hby7, hb7⟩; have HE7 : Hid (MgX w g lo bx #[.int .u32 ui, .int .u8 fl, .slice P bl c] #[.int .i64 4, .int .u32 sq, .string ⟨#[]⟩, .int .i64 0, .string ⟨#[]⟩, .int .i64 x, .int .u8 fx, .int .u32 ux, .int .u32 sx, .slice px bx cx] p2 px l w7 ∧ (b16 = true → Bys w7 w7.heap.size pv l) ∧ (b16 = true → Bys w7 w7.heap.size pv2 l)) := Lib.hid ⟨(MgX.drew H6.out.1).below hb7, fun h => ((H6.out.2 h).drew.belowle hb7 (Nat.le_of_lt H6.out.1.2.2.1.lt)).more (Nat.le_trans (Nat.le_of_lt H6.out.1.2.2.1.lt) hb7.size), hby7⟩; clear hb7 hby7; obtain ⟨py, hpy⟩ : ∃ x, x = selA b16 pv2 := ⟨_, rfl⟩; obtain ⟨cy, hcy⟩ : ∃ x, x = selN b16 cv2 := ⟨_, rfl⟩; rw [← hpy, ← hcy]; have HPY := Lib.hid (And.intro hpy hcy); clear hpy hcy)
        | (go_at_call 15; have hsame := HSM.out _ pv cv pv2 cv2 HE7.out.2.1 HE7.out.2.2; rw [← HPX.out.1, ← HPX.out.2, ← HPY.out.1, ← HPY.out.2] at hsame; refine hsame.mono ?_; clear hsame; rintro e w8 ⟨rfl, hb8⟩; have HE8 : Hid (MgX w g lo bx #[.int .u32 ui, .int .u8 fl, .slice P bl c] #[.int .i64 4, .int .u32 sq, .string ⟨#[]⟩, .int .i64 0, .string ⟨#[]⟩, .int .i64 x, .int .u8 fx, .int .u32 ux, .int .u32 sx, .slice px bx cx] p2 px l w8 ∧ (b16 = true → Bys w8 w8.heap.size pv l)) := Lib.hid ⟨HE7.out.1.below hb8, fun h => ((HE7.out.2.1 h).below hb8).more hb8.size⟩; clear hb8)
        | (go_at_call 13; have hvld := HVL.out _ pv cv HE8.out.2; rw [← HPX.out.1, ← HPX.out.2] at hvld; refine hvld.mono ?_; clear hvld; rintro e w9 ⟨rfl, hb9⟩; have HE9 : Hid (MgX w g lo bx #[.int .u32 ui, .int .u8 fl, .slice P bl c] #[.int .i64 4, .int .u32 sq, .string ⟨#[]⟩, .int .i64 0, .string ⟨#[]⟩, .int .i64 x, .int .u8 fx, .int .u32 ux, .int .u32 sx, .slice px bx cx] p2 px l w9) := Lib.hid (HE8.out.1.below hb9); clear hb9))
    first | (with_reducible refine hK.out _ _ ?_ (fun hHeldA => ?_)) | (go_wp2_with fail; refine hK.out _ _ ?_ (fun hHeldA => ?_))
    · first | (dsimp only; ((refine keepX (w := w) (lo := lo) (n := bx) (p2 := p2) (px := px) (l := l) ?_; (repeat with_reducible refine MgX.drew ?_); first | with_reducible exact HE9.out | with_reducible exact HE8.out.1 | with_reducible exact HE7.out.1 | with_reducible exact H6.out.1))) | ((refine keepX (w := w) (lo := lo) (n := bx) (p2 := p2) (px := px) (l := l) ?_; (repeat with_reducible refine MgX.drew ?_); first | with_reducible exact HE9.out | with_reducible exact HE8.out.1 | with_reducible exact HE7.out.1 | with_reducible exact H6.out.1))
    clear hK K hHeldB
    try simp only [Act.put, List.setIfInBounds_toArray, List.set_cons_zero, List.set_cons_succ]
    refine wpAnyH_take (i := 7) (v := ?_) rfl (by kernel_rfl) (by kernel_rfl) (by kernel_rfl) (fun _ _ _ h => h) (Or.inl ⟨by rfl, ?_⟩) (by assumption) ?_
    rotate_left
    · intro w hSw
      try dsimp only at hSw
      go_simp
      try with_reducible rfl
    try simp only [List.getElem_toArray, List.getElem_cons_zero, List.getElem_cons_succ, Act.put, List.setIfInBounds_toArray, List.set_cons_zero, List.set_cons_succ]
    refine wpAnyH_take (i := 8) (v := ?_) rfl (by kernel_rfl) (by kernel_rfl) (by kernel_rfl) (fun _ _ _ h => h) (Or.inl ⟨by rfl, ?_⟩) (by assumption) ?_
    rotate_left
    · intro w hSw
      try dsimp only at hSw
      go_simp
      try with_reducible rfl
    try simp only [List.getElem_toArray, List.getElem_cons_zero, List.getElem_cons_succ, Act.put, List.setIfInBounds_toArray, List.set_cons_zero, List.set_cons_succ]
    refine wpAnyH_take (i := 9) (v := ?_) rfl (by kernel_rfl) (by kernel_rfl) (by kernel_rfl) (fun _ _ _ h => h) (Or.inl ⟨by rfl, ?_⟩) (by assumption) ?_
    rotate_left
    · intro w hSw
      try dsimp only at hSw
      go_simp
      try with_reducible rfl
    try simp only [List.getElem_toArray, List.getElem_cons_zero, List.getElem_cons_succ, Act.put, List.setIfInBounds_toArray, List.set_cons_zero, List.set_cons_succ]
    refine wpAnyH_take (i := 11) (v := ?_) rfl (by kernel_rfl) (by kernel_rfl) (by kernel_rfl) (fun _ _ _ h => h) (Or.inl ⟨by rfl, ?_⟩) (by assumption) ?_
    rotate_left
    · intro w hSw
      try dsimp only at hSw
      go_simp
      try with_reducible rfl
    try simp only [List.getElem_toArray, List.getElem_cons_zero, List.getElem_cons_succ, Act.put, List.setIfInBounds_toArray, List.set_cons_zero, List.set_cons_succ]
    refine wpAnyH_take (i := 12) (v := ?_) rfl (by kernel_rfl) (by kernel_rfl) (by kernel_rfl) (fun _ _ _ h => h) (Or.inl ⟨by rfl, ?_⟩) (by assumption) ?_
    rotate_left
    · intro w hSw
      try dsimp only at hSw
      go_simp
      try with_reducible rfl
    try simp only [List.getElem_toArray, List.getElem_cons_zero, List.getElem_cons_succ, Act.put, List.setIfInBounds_toArray, List.set_cons_zero, List.set_cons_succ]
    refine wpAnyH_ready (rs := [10]) (by kernel_rfl) (by simp) ?_
    refine AllReadyH.cons rfl (fun K hK => ?_) AllReadyH.nil
    try simp only [List.getElem_toArray, List.getElem_cons_zero, List.getElem_cons_succ]
    go_simp
    (first
        | (go_at_call 19; refine (HRM.out _ (Below.drew H6.out.1.1)).mono ?_; rintro e w7 ⟨pv2, cv2, rfl, hby7, hb7⟩; have HE7 : Hid (MgX w g lo bx #[.int .u32 ui, .int .u8 fl, .slice P bl c] #[.int .i64 4, .int .u32 sq, .string ⟨#[]⟩, .int .i64 0, .string ⟨#[]⟩, .int .i64 x, .int .u8 fx, .int .u32 ux, .int .u32 sx, .slice px bx cx] p2 px l w7 ∧ (b16 = true → Bys w7 w7.heap.size pv l) ∧ (b16 = true → Bys w7 w7.heap.size pv2 l)) := Lib.hid ⟨(MgX.drew H6.out.1).below hb7, fun h => ((H6.out.2 h).drew.belowle hb7 (Nat.le_of_lt H6.out.1.2.2.1.lt)).more (Nat.le_trans (Nat.le_of_lt H6.out.1.2.2.1.lt) hb7.size), hby7⟩; clear hb7 hby7; obtain ⟨py, hpy⟩ : ∃ x, x = selA b16 pv2 := ⟨_, rfl⟩; obtain ⟨cy, hcy⟩ : ∃ x, x = selN b16 cv2 := ⟨_, rfl⟩; rw [← hpy, ← hcy]; have HPY := Lib.hid (And.intro hpy hcy); clear hpy hcy)
        | (go_at_call 15; have hsame := HSM.out _ pv cv pv2 cv2 HE7.out.2.1 HE7.out.2.2; rw [← HPX.out.1, ← HPX.out.2, ← HPY.out.1, ← HPY.out.2] at hsame; refine hsame.mono ?_; clear hsame; rintro e w8 ⟨rfl, hb8⟩; have HE8 : Hid (MgX w g lo bx #[.int .u32 ui, .int .u8 fl, .slice P bl c] #[.int .i64 4, .int .u32 sq, .string ⟨#[]⟩, .int .i64 0, .string ⟨#[]⟩, .int .i64 x, .int .u8 fx, .int .u32 ux, .int .u32 sx, .slice px bx cx] p2 px l w8 ∧ (b16 = true → Bys w8 w8.heap.size pv l)) := Lib.hid ⟨HE7.out.1.below hb8, fun h => ((HE7.out.2.1 h).below hb8).more hb8.size⟩; clear hb8)
        | (go_at_call 13; have hvld := HVL.out _ pv cv HE8.out.2; rw [← HPX.out.1, ← HPX.out.2] at hvld; refine hvld.mono ?_; clear hvld; rintro e w9 ⟨rfl, hb9⟩; have HE9 : Hid (MgX w g lo bx #[.int .u32 ui, .int .u8 fl, .slice P bl c] #[.int .i64 4, .int .u32 sq, .string ⟨#[]⟩, .int .i64 0, .string ⟨#[]⟩, .int .i64 x, .int .u8 fx, .int .u32 ux, .int .u32 sx, .slice px bx cx] p2 px l w9) := Lib.hid (HE8.out.1.below hb9); clear hb9))
    first | (with_reducible refine hK.out _ _ ?_ (fun hHeldB => ?_)) | (go_wp2_with fail; refine hK.out _ _ ?_ (fun hHeldB => ?_))
    · first | (dsimp only; ((refine keepX (w := w) (lo := lo) (n := bx) (p2 := p2) (px := px) (l := l) ?_; (repeat with_reducible refine MgX.drew ?_); first | with_reducible exact HE9.out | with_reducible exact HE8.out.1 | with_reducible exact HE7.out.1 | with_reducible exact H6.out.1))) | ((refine keepX (w := w) (lo := lo) (n := bx) (p2 := p2) (px := px) (l := l) ?_; (repeat with_reducible refine MgX.drew ?_); first | with_reducible exact HE9.out | with_reducible exact HE8.out.1 | with_reducible exact HE7.out.1 | with_reducible exact H6.out.1))
    clear hK K hHeldA
    try simp only [Act.put, List.setIfInBounds_toArray, List.set_cons_zero, List.set_cons_succ]
    refine wpAnyH_take (i := 13) (v := ?_) rfl (by kernel_rfl) (by kernel_rfl) (by kernel_rfl) (fun _ _ _ h => h) (Or.inl ⟨by rfl, ?_⟩) (by assumption) ?_
    rotate_left
    · intro w hSw
      try dsimp only at hSw
      go_simp
      try with_reducible rfl
    try simp only [List.getElem_toArray, List.getElem_cons_zero, List.getElem_cons_succ, Act.put, List.setIfInBounds_toArray, List.set_cons_zero, List.set_cons_succ]
    refine wpAnyH_take (i := 14) (v := ?_) rfl (by kernel_rfl) (by kernel_rfl) (by kernel_rfl) (fun _ _ _ h => h) (Or.inl ⟨by rfl, ?_⟩) (by assumption) ?_
    rotate_left
    · intro w hSw
      try dsimp only at hSw
      go_simp
      try with_reducible rfl
    try simp only [List.getElem_toArray, List.getElem_cons_zero, List.getElem_cons_succ, Act.put, List.setIfInBounds_toArray, List.set_cons_zero, List.set_cons_succ]
    refine wpAnyH_done (by kernel_rfl) ?_ _
    refine NoPanic.normal ?_
    all_goals
      go_wp2_with fail
      go_meet
      exact ⟨by rw [HVV.out]; cases vv <;> rfl, HE9.out⟩
  case rest =>
    obtain ⟨rfl, hmx⟩ := hcut
    have HMX := Lib.hid hmx
    clear hmx
    have HN5 : Hid (bx ≤ 500) := Lib.hid (by rw [HBX.out]; cases b16 <;> simp [selN] <;> omega)
    have hn5 : (bx : Int) ≤ 500 := by have := HN5.out; omega
    have k9 : wc.cell? ⟨g, 9, none⟩ = some (.slice px bx cx) := by rw [HMX.out.2.2.1.cell]; rfl
    clear H6 HPX
    go_wp2_with fail
    go_loopw [55] (fun j wr => ∃ k : Nat, k ≤ bx ∧ j = .int .i64 (k : Int) ∧ MgX w g lo bx #[.int .u32 ui, .int .u8 fl, .slice P bl c] #[.int .i64 4, .int .u32 sq, .string ⟨#[]⟩, .int .i64 0, .string ⟨#[]⟩, .int .i64 x, .int .u8 fx, .int .u32 ux, .int .u32 sx, .slice px bx cx] p2 px l wr) (fun j _ => bx - (intOf j).toNat)
    case atStart => exact ⟨0, Nat.zero_le _, rfl, HMX.out⟩
    case round =>
      obtain ⟨k, hk, rfl, hm⟩ := hrel
      have HM := Lib.hid hm
      clear hm HMX k9
      have k9 : wr.cell? ⟨g, 9, none⟩ = some (.slice px bx cx) := by rw [HM.out.2.2.1.cell]; rfl
      by_cases hlt : k < bx
      · have hi0 : (0 : Int) ≤ k := by omega
        have hi1 : (k : Int) < bx := by omega
        obtain ⟨pb, po, rfl, hp1, hp2, hcl⟩ := HM.out.2.2.2.2.1 (by omega)
        obtain ⟨u, d1, z1⟩ := hcl k hlt
        have HPB := Lib.hid (And.intro hp1 hp2)
        clear hcl hp1 hp2
        go_wp2_with fail
        exact ⟨⟨k + 1, by omega, by go_num, HM.out.put HPB.out.1 HPB.out.2 _⟩, by simp [intOf]; omega⟩
      · have e0 : wr.cell? ⟨w.heap.size, 2, none⟩ = some (.slice P bl c) := by rw [HM.out.2.1.cell]; rfl
        go_wp2_with fail
        refine (HAL.out _ HM.out.1).mono ?_
        rintro e w9 ⟨rfl, hb9⟩
        have HM9 := Lib.hid (HM.out.below hb9)
        clear hb9 e0 k9
        have e0 : w9.cell? ⟨w.heap.size, 2, none⟩ = some (.slice P bl c) := by rw [HM9.out.2.1.cell]; rfl
        have heq := equal_any p2 P c2 c l l w9 _ _ HM9.out.2.2.2.1 (HBY.out.below HM9.out.1) (by have := HBL.out; omega) (by have := HBL.out; omega)
        rw [HBL.out] at heq
        have HEQ := Lib.hid heq
        clear heq
        go_wp2_with fail
        refine HEQ.out.mono ?_
        rw [decide_true]
        rintro e w10 ⟨rfl, hb10⟩
        have HB := Lib.hid (below_call HM9.out.1 hb10)
        clear hb10
        go_wp2_with fail
        go_ret
        exact ⟨rfl, HB.out⟩
end Go.Proofs.YtgdhakkfddmkjaaDoor
