/- The walk of resp.Message. · The walk of the map of forms. · The walk of resp.Same. -/
import Derived.Deep.RegionHeld3
import Derived.Test.YtgdhakkfddmkjaaDoorJ5
import Derived.Test.YtgdhakkfddmkjaaDoorRFet
import Derived.Deep.DeepCutAuto
import Derived.Test.YtgdhakkfddmkjaaDoorJ6
import Derived.Test.YtgdhakkfddmkjaaDoorJ3
import Derived.Test.YtgdhakkfddmkjaaDoorJ0
import Derived.BigQuiet
set_option linter.unusedVariables false
set_option linter.unusedSimpArgs false
namespace Go.Proofs.YtgdhakkfddmkjaaDoor
open Go.RowKit

theorem clone_any (P : Option Addr) (l : List UInt8) (c : Nat) (w : World) (h : Bys w w.heap.size P l) (hl : l.length ≤ 1048576) (hn : P = none → l.length = 0 ∧ c = 0) :
    Calls Tryd.prog 32 #[.slice P l.length c] w (RetB w l) := by
  cases P with
  | some q => exact clone_some q c _ l rfl w h hl
  | none =>
    obtain ⟨e1, rfl⟩ := hn rfl
    obtain rfl := List.eq_nil_of_length_eq_zero e1
    exact (clone_nil w).mono fun e w' ⟨h1, h2⟩ => ⟨_, h1, h2 ▸ Buf.nil _ _ _, h2 ▸ Below.refl _ _⟩
theorem Buf.farB {w : World} {base size n : Nat} {v : Value} {xs : List Value} (h : Buf w base size v n xs) {p : Addr} (hp : p.block < base) (u : Value) : Buf (w.setCell p u) base size v n xs := by
  rcases h.2 with ⟨rfl, _⟩ | ⟨g, off, cap, rfl, hg, _⟩
  · exact h.far (fun e => by cases e) u
  · exact h.far (fun e => by injection e with e; have e2 : g = p.block := e; omega) u
theorem setCell_hsz (w : World) (p : Addr) (u : Value) : (w.setCell p u).heap.size = w.heap.size := by simp [World.setCell]
theorem ms_keep {W : World} {g : Nat} {t : TypeId} {a0 a1 a2 : Value} (h : Blk W g t #[a0, a1, a2]) : W.cell? ⟨g, 0, none⟩ = some a0 ∧ W.cell? ⟨g, 1, none⟩ = some a1 ∧ W.cell? ⟨g, 2, none⟩ = some a2 := ⟨by rw [h.cell]; rfl, by rw [h.cell]; rfl, by rw [h.cell]; rfl⟩
/-- What stands behind the making of 'whole'. -/
def MsCut (w : World) (fl ui sz : Int) (bl : Nat) (l : List UInt8) (v7 : Value) (wx : World) : Prop :=
  ∃ g7 pv cv, v7 = .pointer (some ⟨g7, 0, none⟩) ∧ Blk wx g7 26 #[.int .i64 0, .int .u32 0, .string ⟨#[]⟩, .int .i64 0, .string ⟨#[]⟩, .int .i64 0, .int .u8 fl, .int .u32 ui, .int .u32 sz, .slice pv bl cv] ∧ Blk wx (w.heap.size + 1) 26 #[.int .i64 0, .int .u32 0, .string ⟨#[]⟩, .int .i64 0, .string ⟨#[]⟩, .int .i64 0, .int .u8 0, .int .u32 0, .int .u32 0, .slice none 0 0] ∧ Below w.heap.size w wx ∧ Buf wx (w.heap.size + 2) 1 (.slice pv bl cv) bl (Lib.byteCells l) ∧ w.heap.size + 1 < wx.heap.size ∧ g7 ≠ w.heap.size + 1
/-- What Message hands back. -/
def MsPost (w : World) (n it fl ui sz : Int) (l : List UInt8) (b1 b2 b4 b16 : Bool) (e : Ending) (w' : World) : Prop :=
  ∃ pv cv, e = .returned (.agg (outC 4 n (orI (orI (orI (orI 0 b1 1) b2 2) b4 4) b16 16) (selI b1 fl) (selI b2 ui) (selI b4 sz) (.slice (selA b16 pv) (selN b16 l.length) (selN b16 cv)))) ∧ Buf w' w.heap.size 1 (.slice pv l.length cv) l.length (Lib.byteCells l) ∧ Below w.heap.size w w'

set_option maxRecDepth 100000 in
set_option maxHeartbeats 12800000 in
theorem message_any (n it it' fl ui : Int) (P : Option Addr) (l : List UInt8) (c : Nat) (w : World) (hit : it' = if (bits .and .i64 it 8 != 0) = true then bits .or .i64 it 16 else it) (b1 b2 b4 b16 : Bool) (h1 : (bits .and .i64 it' 1 != 0) = b1) (h2 : (bits .and .i64 it' 2 != 0) = b2) (h4 : (bits .and .i64 it' 4 != 0) = b4) (h16 : (bits .and .i64 it' 16 != 0) = b16)
    (hb : Bys w w.heap.size P l) (hl : l.length ≤ 100000) (hnl : P = none → l.length = 0 ∧ c = 0) (hn0 : 0 ≤ n) (hn1 : n < 4294967296) :
    Calls Tryd.prog 18 #[.int .i64 n, .int .i64 it, .agg #[.int .u32 ui, .int .u8 fl, .slice P l.length c]] w (MsPost w n it' fl ui (l.length : Nat) l b1 b2 b4 b16) := by
  have HP := Lib.hid parts_any
  have HCL := Lib.hid (fun W (hW : Below w.heap.size w W) => clone_any P l c W ((hb.below hW).more hW.size) (by omega) hnl)
  have Hb1 := Lib.hid h1
  have Hb2 := Lib.hid h2
  have Hb4 := Lib.hid h4
  have Hb16 := Lib.hid h16
  have HIT := Lib.hid hit
  have HMP : Hid (∀ e w', MsPost w n it' fl ui (l.length : Nat) l b1 b2 b4 b16 e w' → MsPost w n it' fl ui (l.length : Nat) l b1 b2 b4 b16 e w') := Lib.hid fun _ _ h => h
  clear h1 h2 h4 h16 hit hb hnl
  generalize hbl : l.length = bl at *
  have hbl2 : (bl : Int) ≤ 100000 := by omega
  have HBL := Lib.hid hbl
  clear hbl hl
  obtain ⟨sz, hsz⟩ : ∃ sz : Int, sz = (bl : Int) := ⟨_, rfl⟩
  have HSZ := Lib.hid hsz
  have hwr : IntKind.u32.wrap (bl : Int) = sz := by rw [HSZ.out]; exact IntWalk.u32_in _ (by omega)
  clear hsz
  go_enter Tryd.func18, Tryd.ntmps18
  go_upto_if 13 with fail
  have HW0 : Hid (Below w.heap.size w ((w.alloc (.cells #[.int .u32 ui, .int .u8 fl, .slice P bl c] 37)).alloc (.cells #[.int .i64 0, .int .u32 0, .string ⟨#[]⟩, .int .i64 0, .string ⟨#[]⟩, .int .i64 0, .int .u8 0, .int .u32 0, .int .u32 0, .slice none 0 0] 26)) ∧ Blk ((w.alloc (.cells #[.int .u32 ui, .int .u8 fl, .slice P bl c] 37)).alloc (.cells #[.int .i64 0, .int .u32 0, .string ⟨#[]⟩, .int .i64 0, .string ⟨#[]⟩, .int .i64 0, .int .u8 0, .int .u32 0, .int .u32 0, .slice none 0 0] 26)) w.heap.size 37 #[.int .u32 ui, .int .u8 fl, .slice P bl c] ∧ Blk ((w.alloc (.cells #[.int .u32 ui, .int .u8 fl, .slice P bl c] 37)).alloc (.cells #[.int .i64 0, .int .u32 0, .string ⟨#[]⟩, .int .i64 0, .string ⟨#[]⟩, .int .i64 0, .int .u8 0, .int .u32 0, .int .u32 0, .slice none 0 0] 26)) (w.heap.size + 1) 26 #[.int .i64 0, .int .u32 0, .string ⟨#[]⟩, .int .i64 0, .string ⟨#[]⟩, .int .i64 0, .int .u8 0, .int .u32 0, .int .u32 0, .slice none 0 0] ∧ ((w.alloc (.cells #[.int .u32 ui, .int .u8 fl, .slice P bl c] 37)).alloc (.cells #[.int .i64 0, .int .u32 0, .string ⟨#[]⟩, .int .i64 0, .string ⟨#[]⟩, .int .i64 0, .int .u8 0, .int .u32 0, .int .u32 0, .slice none 0 0] 26)).heap.size = w.heap.size + 2) := Lib.hid ⟨((Below.refl _ _).alloc (Nat.le_refl _) _).alloc (by rw [World.size_alloc]; omega) _, (Blk.made _ _ _).past _, by have := Blk.made (w.alloc (.cells #[.int .u32 ui, .int .u8 fl, .slice P bl c] 37)) 26 #[.int .i64 0, .int .u32 0, .string ⟨#[]⟩, .int .i64 0, .string ⟨#[]⟩, .int .i64 0, .int .u8 0, .int .u32 0, .int .u32 0, .slice none 0 0]; rw [World.size_alloc] at this; exact this, by simp only [World.size_alloc]⟩
  generalize (w.alloc (.cells #[.int .u32 ui, .int .u8 fl, .slice P bl c] 37)).alloc (.cells #[.int .i64 0, .int .u32 0, .string ⟨#[]⟩, .int .i64 0, .string ⟨#[]⟩, .int .i64 0, .int .u8 0, .int .u32 0, .int .u32 0, .slice none 0 0] 26) = w0 at *
  have hw0 : w.heap.size + 2 ≤ w0.heap.size := by have := HW0.out.2.2.2; omega
  go_cut [1] (fun s1 wx => s1 = .int .i64 it' ∧ wx = w0)
  case first =>
    cases hpk : (bits .and .i64 it 8 != 0) with
    | true =>
      have HR : Hid (bits .or .i64 it 16 = it') := Lib.hid (by rw [HIT.out, hpk]; rfl)
      go_wp2_with fail
      go_meet
      exact ⟨by rw [← HR.out], rfl⟩
    | false =>
      have HR : Hid (it = it') := Lib.hid (by rw [HIT.out, hpk]; rfl)
      go_wp2_with fail
      go_meet
      exact ⟨by rw [← HR.out], rfl⟩
  case rest =>
    obtain ⟨rfl, rfl⟩ := hcut
    go_upto_region 3 with fail
    go_cut [7] (fun s7 wx => MsCut w fl ui sz bl l s7 wx)
    case first =>
      have m0 : wc.cell? ⟨w.heap.size, 0, none⟩ = some (.int .u32 ui) := by rw [HW0.out.2.1.cell]; rfl
      have m1 : wc.cell? ⟨w.heap.size, 1, none⟩ = some (.int .u8 fl) := by rw [HW0.out.2.1.cell]; rfl
      have m2 : wc.cell? ⟨w.heap.size, 2, none⟩ = some (.slice P bl c) := by rw [HW0.out.2.1.cell]; rfl
      refine wp_region_noPanic ?_
      refine wp_region_held_drew (S := (fun W => W.cell? ⟨w.heap.size, 0, none⟩ = some (.int .u32 ui) ∧ W.cell? ⟨w.heap.size, 1, none⟩ = some (.int .u8 fl) ∧ W.cell? ⟨w.heap.size, 2, none⟩ = some (.slice P bl c))) (by kernel_rfl) ?_ (fun hHeldA => ?_)
      · first | (dsimp only; ((refine ms_keep (t := 37) ?_; (repeat (first | with_reducible refine Blk.drew ?_ | with_reducible refine Blk.past ?_ _ | with_reducible refine Blk.far3 ?_ (by omega) _)); first | with_reducible exact HE.out.1 | with_reducible exact HW0.out.2.1))) | ((refine ms_keep (t := 37) ?_; (repeat (first | with_reducible refine Blk.drew ?_ | with_reducible refine Blk.past ?_ _ | with_reducible refine Blk.far3 ?_ (by omega) _)); first | with_reducible exact HE.out.1 | with_reducible exact HW0.out.2.1))
      refine wpAnyH_take (i := 0) (v := ?_) rfl (by kernel_rfl) (by kernel_rfl) (by kernel_rfl) (fun _ _ _ h => h) (Or.inl ⟨by rfl, ?_⟩) (by assumption) ?_
      rotate_left
      · intro w hSw
        try dsimp only at hSw
        go_simp
        try with_reducible rfl
      try simp only [List.getElem_toArray, List.getElem_cons_zero, List.getElem_cons_succ, Act.put, List.setIfInBounds_toArray, List.set_cons_zero, List.set_cons_succ]
      refine wpAnyH_take (i := 1) (v := ?_) rfl (by kernel_rfl) (by kernel_rfl) (by kernel_rfl) (fun _ _ _ h => h) (Or.inl ⟨by rfl, ?_⟩) (by assumption) ?_
      rotate_left
      · intro w hSw
        try dsimp only at hSw
        go_simp
        try with_reducible rfl
      try simp only [List.getElem_toArray, List.getElem_cons_zero, List.getElem_cons_succ, Act.put, List.setIfInBounds_toArray, List.set_cons_zero, List.set_cons_succ]
      refine wpAnyH_take (i := 2) (v := ?_) rfl (by kernel_rfl) (by kernel_rfl) (by kernel_rfl) (fun _ _ _ h => h) (Or.inl ⟨by rfl, ?_⟩) (by assumption) ?_
      rotate_left
      · intro w hSw
        try dsimp only at hSw
        go_simp
        try with_reducible rfl
      try simp only [List.getElem_toArray, List.getElem_cons_zero, List.getElem_cons_succ, Act.put, List.setIfInBounds_toArray, List.set_cons_zero, List.set_cons_succ]
      refine wpAnyH_take (i := 3) (v := ?_) rfl (by kernel_rfl) (by kernel_rfl) (by kernel_rfl) (fun _ _ _ h => h) (Or.inl ⟨by rfl, ?_⟩) (by assumption) ?_
      rotate_left
      · intro w hSw
        try dsimp only at hSw
        go_simp
        try with_reducible rfl
      try simp only [List.getElem_toArray, List.getElem_cons_zero, List.getElem_cons_succ, Act.put, List.setIfInBounds_toArray, List.set_cons_zero, List.set_cons_succ]
      refine wpAnyH_take (i := 4) (v := ?_) rfl (by kernel_rfl) (by kernel_rfl) (by kernel_rfl) (fun _ _ _ h => h) (Or.inl ⟨by rfl, ?_⟩) (by assumption) ?_
      rotate_left
      · intro w hSw
        try dsimp only at hSw
        go_simp
        try with_reducible rfl
      try simp only [List.getElem_toArray, List.getElem_cons_zero, List.getElem_cons_succ, Act.put, List.setIfInBounds_toArray, List.set_cons_zero, List.set_cons_succ]
      refine wpAnyH_take (i := 5) (v := ?_) rfl (by kernel_rfl) (by kernel_rfl) (by kernel_rfl) (fun _ _ _ h => h) (Or.inl ⟨by rfl, ?_⟩) (by assumption) ?_
      rotate_left
      · intro w hSw
        try dsimp only at hSw
        go_simp
        try with_reducible rfl
      try simp only [List.getElem_toArray, List.getElem_cons_zero, List.getElem_cons_succ, Act.put, List.setIfInBounds_toArray, List.set_cons_zero, List.set_cons_succ]
      refine wpAnyH_take (i := 6) (v := ?_) rfl (by kernel_rfl) (by kernel_rfl) (by kernel_rfl) (fun _ _ _ h => h) (Or.inl ⟨by rfl, ?_⟩) (by assumption) ?_
      rotate_left
      · intro w hSw
        try dsimp only at hSw
        go_simp
        try with_reducible rfl
      try simp only [List.getElem_toArray, List.getElem_cons_zero, List.getElem_cons_succ, Act.put, List.setIfInBounds_toArray, List.set_cons_zero, List.set_cons_succ]
      refine wpAnyH_take (i := 7) (v := ?_) rfl (by kernel_rfl) (by kernel_rfl) (by kernel_rfl) (fun _ _ _ h => h) (Or.inl ⟨by rfl, ?_⟩) (by assumption) ?_
      rotate_left
      · intro w hSw
        try dsimp only at hSw
        go_simp
        try with_reducible rfl
      try simp only [List.getElem_toArray, List.getElem_cons_zero, List.getElem_cons_succ, Act.put, List.setIfInBounds_toArray, List.set_cons_zero, List.set_cons_succ]
      refine wpAnyH_take (i := 8) (v := ?_) rfl (by kernel_rfl) (by kernel_rfl) (by kernel_rfl) (fun _ _ _ h => h) (Or.inl ⟨by rfl, ?_⟩) (by assumption) ?_
      rotate_left
      · intro w hSw
        try dsimp only at hSw
        go_simp
        try with_reducible rfl
      try simp only [List.getElem_toArray, List.getElem_cons_zero, List.getElem_cons_succ, Act.put, List.setIfInBounds_toArray, List.set_cons_zero, List.set_cons_succ]
      refine wpAnyH_take (i := 9) (v := ?_) rfl (by kernel_rfl) (by kernel_rfl) (by kernel_rfl) (fun _ _ _ h => h) (Or.inl ⟨by rfl, ?_⟩) (by assumption) ?_
      rotate_left
      · intro w hSw
        try dsimp only at hSw
        go_simp
        try with_reducible rfl
      try simp only [List.getElem_toArray, List.getElem_cons_zero, List.getElem_cons_succ, Act.put, List.setIfInBounds_toArray, List.set_cons_zero, List.set_cons_succ]
      refine wpAnyH_ready (rs := [10, 12]) (by kernel_rfl) (by simp) ?_
      refine AllReadyH.cons rfl (fun K hK => ?w1x10) (AllReadyH.cons rfl (fun K hK => ?w1x12) (AllReadyH.nil))
      case' w1x10 =>
        try simp only [List.getElem_toArray, List.getElem_cons_zero, List.getElem_cons_succ]
        go_simp
        ((refine (HCL.out _ (by ((repeat (first | with_reducible refine Below.drew ?_ | with_reducible refine Below.alloc ?_ (by first | (simp only [World.size_alloc]; omega) | omega) _)); exact HW0.out.1))).mono ?_; rintro e w2 ⟨vv, rfl, hbv, hb2⟩; obtain ⟨pv, cv, rfl, hcv, -⟩ := hbv.bys; rw [HBL.out] at hbv hcv ⊢; have HE : Hid (Blk w2 w.heap.size 37 #[.int .u32 ui, .int .u8 fl, .slice P bl c] ∧ Blk w2 (w.heap.size + 1) 26 #[.int .i64 0, .int .u32 0, .string ⟨#[]⟩, .int .i64 0, .string ⟨#[]⟩, .int .i64 0, .int .u8 0, .int .u32 0, .int .u32 0, .slice none 0 0] ∧ Below w.heap.size w w2 ∧ Buf w2 (w.heap.size + 2) 1 (.slice pv bl cv) bl (Lib.byteCells l)) := Lib.hid ⟨Blk.below HW0.out.2.1.drewd hb2 HW0.out.2.1.lt, Blk.below HW0.out.2.2.1.drewd hb2 HW0.out.2.2.1.lt, below_call (Below.drew HW0.out.1) hb2, hbv.mono (by show _ ≤ wc.heap.size; omega)⟩; clear hbv hb2 hcv))
        first | (with_reducible refine hK.out _ _ ?_ (fun hHeldB => ?_)) | (go_wp2_with fail; refine hK.out _ _ ?_ (fun hHeldB => ?_))
        · first | (dsimp only; ((refine ms_keep (t := 37) ?_; (repeat (first | with_reducible refine Blk.drew ?_ | with_reducible refine Blk.past ?_ _ | with_reducible refine Blk.far3 ?_ (by omega) _)); first | with_reducible exact HE.out.1 | with_reducible exact HW0.out.2.1))) | ((refine ms_keep (t := 37) ?_; (repeat (first | with_reducible refine Blk.drew ?_ | with_reducible refine Blk.past ?_ _ | with_reducible refine Blk.far3 ?_ (by omega) _)); first | with_reducible exact HE.out.1 | with_reducible exact HW0.out.2.1))
        clear hK K hHeldA
        try simp only [Act.put, List.setIfInBounds_toArray, List.set_cons_zero, List.set_cons_succ]
        refine wpAnyH_take (i := 11) (v := ?_) rfl (by kernel_rfl) (by kernel_rfl) (by kernel_rfl) (fun _ _ _ h => h) (Or.inl ⟨by rfl, ?_⟩) (by assumption) ?_
        rotate_left
        · intro w hSw
          try dsimp only at hSw
          go_simp
          try with_reducible rfl
        try simp only [List.getElem_toArray, List.getElem_cons_zero, List.getElem_cons_succ, Act.put, List.setIfInBounds_toArray, List.set_cons_zero, List.set_cons_succ]
        refine wpAnyH_ready (rs := [12]) (by kernel_rfl) (by simp) ?_
        refine AllReadyH.cons rfl (fun K hK => ?_) AllReadyH.nil
        try simp only [List.getElem_toArray, List.getElem_cons_zero, List.getElem_cons_succ]
        go_simp
        first | (with_reducible refine hK.out _ _ ?_ (fun hHeldA => ?_)) | (go_wp2_with fail; refine hK.out _ _ ?_ (fun hHeldA => ?_))
        · first | (dsimp only; ((refine ms_keep (t := 37) ?_; (repeat (first | with_reducible refine Blk.drew ?_ | with_reducible refine Blk.past ?_ _ | with_reducible refine Blk.far3 ?_ (by omega) _)); first | with_reducible exact HE.out.1 | with_reducible exact HW0.out.2.1))) | ((refine ms_keep (t := 37) ?_; (repeat (first | with_reducible refine Blk.drew ?_ | with_reducible refine Blk.past ?_ _ | with_reducible refine Blk.far3 ?_ (by omega) _)); first | with_reducible exact HE.out.1 | with_reducible exact HW0.out.2.1))
        clear hK K hHeldB
        try simp only [Act.put, List.setIfInBounds_toArray, List.set_cons_zero, List.set_cons_succ]
        refine wpAnyH_ready (rs := [13]) (by kernel_rfl) (by simp) ?_
        refine AllReadyH.cons rfl (fun K hK => ?_) AllReadyH.nil
        try simp only [List.getElem_toArray, List.getElem_cons_zero, List.getElem_cons_succ]
        go_simp
        first | (with_reducible refine hK.out _ _ ?_ (fun hHeldB => ?_)) | (go_wp2_with fail; refine hK.out _ _ ?_ (fun hHeldB => ?_))
        · first | (dsimp only; ((refine ms_keep (t := 37) ?_; (repeat (first | with_reducible refine Blk.drew ?_ | with_reducible refine Blk.past ?_ _ | with_reducible refine Blk.far3 ?_ (by omega) _)); first | with_reducible exact HE.out.1 | with_reducible exact HW0.out.2.1))) | ((refine ms_keep (t := 37) ?_; (repeat (first | with_reducible refine Blk.drew ?_ | with_reducible refine Blk.past ?_ _ | with_reducible refine Blk.far3 ?_ (by omega) _)); first | with_reducible exact HE.out.1 | with_reducible exact HW0.out.2.1))
        clear hK K hHeldA
        try simp only [Act.put, List.setIfInBounds_toArray, List.set_cons_zero, List.set_cons_succ]
        refine wpAnyH_done (by kernel_rfl) ?_ _
        refine NoPanic.normal ?_
      case' w1x12 =>
        try simp only [List.getElem_toArray, List.getElem_cons_zero, List.getElem_cons_succ]
        go_simp
        first | (with_reducible refine hK.out _ _ ?_ (fun hHeldB => ?_)) | (go_wp2_with fail; refine hK.out _ _ ?_ (fun hHeldB => ?_))
        · first | (dsimp only; ((refine ms_keep (t := 37) ?_; (repeat (first | with_reducible refine Blk.drew ?_ | with_reducible refine Blk.past ?_ _ | with_reducible refine Blk.far3 ?_ (by omega) _)); first | with_reducible exact HE.out.1 | with_reducible exact HW0.out.2.1))) | ((refine ms_keep (t := 37) ?_; (repeat (first | with_reducible refine Blk.drew ?_ | with_reducible refine Blk.past ?_ _ | with_reducible refine Blk.far3 ?_ (by omega) _)); first | with_reducible exact HE.out.1 | with_reducible exact HW0.out.2.1))
        clear hK K hHeldA
        try simp only [Act.put, List.setIfInBounds_toArray, List.set_cons_zero, List.set_cons_succ]
        refine wpAnyH_ready (rs := [10]) (by kernel_rfl) (by simp) ?_
        refine AllReadyH.cons rfl (fun K hK => ?_) AllReadyH.nil
        try simp only [List.getElem_toArray, List.getElem_cons_zero, List.getElem_cons_succ]
        go_simp
        ((refine (HCL.out _ (by ((repeat (first | with_reducible refine Below.drew ?_ | with_reducible refine Below.alloc ?_ (by first | (simp only [World.size_alloc]; omega) | omega) _)); exact HW0.out.1))).mono ?_; rintro e w2 ⟨vv, rfl, hbv, hb2⟩; obtain ⟨pv, cv, rfl, hcv, -⟩ := hbv.bys; rw [HBL.out] at hbv hcv ⊢; have hk7 : Blk w2 wc.heap.size 26 #[.int .i64 0, .int .u32 0, .string ⟨#[]⟩, .int .i64 0, .string ⟨#[]⟩, .int .i64 0, .int .u8 0, .int .u32 0, .int .u32 0, .slice none 0 0] := Blk.below (Blk.made wc _ _).drewd hb2 (Blk.made wc _ _).lt; have HE : Hid (Blk w2 w.heap.size 37 #[.int .u32 ui, .int .u8 fl, .slice P bl c] ∧ Blk w2 (w.heap.size + 1) 26 #[.int .i64 0, .int .u32 0, .string ⟨#[]⟩, .int .i64 0, .string ⟨#[]⟩, .int .i64 0, .int .u8 0, .int .u32 0, .int .u32 0, .slice none 0 0] ∧ Below w.heap.size w w2 ∧ Buf w2 (wc.heap.size + 1) 1 (.slice pv bl cv) bl (Lib.byteCells l)) := Lib.hid ⟨Blk.below (HW0.out.2.1.past _).drewd hb2 (HW0.out.2.1.past _).lt, Blk.below (HW0.out.2.2.1.past _).drewd hb2 (HW0.out.2.2.1.past _).lt, below_call (Below.drew (HW0.out.1.alloc HW0.out.1.size _)) hb2, hbv.mono (by show _ ≤ (World.alloc wc _).heap.size; rw [World.size_alloc]; omega)⟩; have HK7 := Lib.hid hk7; obtain ⟨⟨d0, d1, d2, d3, d4, d5, d6, d7, d8, d9⟩, f0, f1, f2, f3, f4, f5, f6, f7, f8, f9⟩ := Blk.ten hk7; clear hbv hb2 hk7 hcv))
        first | (with_reducible refine hK.out _ _ ?_ (fun hHeldA => ?_)) | (go_wp2_with fail; refine hK.out _ _ ?_ (fun hHeldA => ?_))
        · first | (dsimp only; ((refine ms_keep (t := 37) ?_; (repeat (first | with_reducible refine Blk.drew ?_ | with_reducible refine Blk.past ?_ _ | with_reducible refine Blk.far3 ?_ (by omega) _)); first | with_reducible exact HE.out.1 | with_reducible exact HW0.out.2.1))) | ((refine ms_keep (t := 37) ?_; (repeat (first | with_reducible refine Blk.drew ?_ | with_reducible refine Blk.past ?_ _ | with_reducible refine Blk.far3 ?_ (by omega) _)); first | with_reducible exact HE.out.1 | with_reducible exact HW0.out.2.1))
        clear hK K hHeldB
        try simp only [Act.put, List.setIfInBounds_toArray, List.set_cons_zero, List.set_cons_succ]
        refine wpAnyH_take (i := 11) (v := ?_) rfl (by kernel_rfl) (by kernel_rfl) (by kernel_rfl) (fun _ _ _ h => h) (Or.inl ⟨by rfl, ?_⟩) (by assumption) ?_
        rotate_left
        · intro w hSw
          try dsimp only at hSw
          go_simp
          try with_reducible rfl
        try simp only [List.getElem_toArray, List.getElem_cons_zero, List.getElem_cons_succ, Act.put, List.setIfInBounds_toArray, List.set_cons_zero, List.set_cons_succ]
        refine wpAnyH_ready (rs := [13]) (by kernel_rfl) (by simp) ?_
        refine AllReadyH.cons rfl (fun K hK => ?_) AllReadyH.nil
        try simp only [List.getElem_toArray, List.getElem_cons_zero, List.getElem_cons_succ]
        go_simp
        first | (with_reducible refine hK.out _ _ ?_ (fun hHeldB => ?_)) | (go_wp2_with fail; refine hK.out _ _ ?_ (fun hHeldB => ?_))
        · first | (dsimp only; ((refine ms_keep (t := 37) ?_; (repeat (first | with_reducible refine Blk.drew ?_ | with_reducible refine Blk.past ?_ _ | with_reducible refine Blk.far3 ?_ (by omega) _)); first | with_reducible exact HE.out.1 | with_reducible exact HW0.out.2.1))) | ((refine ms_keep (t := 37) ?_; (repeat (first | with_reducible refine Blk.drew ?_ | with_reducible refine Blk.past ?_ _ | with_reducible refine Blk.far3 ?_ (by omega) _)); first | with_reducible exact HE.out.1 | with_reducible exact HW0.out.2.1))
        clear hK K hHeldA
        try simp only [Act.put, List.setIfInBounds_toArray, List.set_cons_zero, List.set_cons_succ]
        refine wpAnyH_done (by kernel_rfl) ?_ _
        refine NoPanic.normal ?_
      rotate_left
      · go_wp2_with fail
        go_meet
        exact ⟨w2.heap.size, pv, cv, rfl, Blk.made _ _ _, HE.out.2.1.past _, HE.out.2.2.1.alloc HE.out.2.2.1.size _, HE.out.2.2.2.past _, by have := HE.out.2.1.lt; rw [World.size_alloc]; omega, by have := HE.out.2.1.lt; omega⟩
      · go_wp2_with fail
        go_meet
        have hp := ((((((((((HK7.out.put 0 (.int .i64 0)).put 1 (.int .u32 0)).put 2 (.string ⟨#[]⟩)).put 3 (.int .i64 0)).put 4 (.string ⟨#[]⟩)).put 5 (.int .i64 0)).put 6 (.int .u8 fl)).put 7 (.int .u32 ui)).put 8 (.int .u32 sz)).put 9 (.slice pv bl cv))
        simp only [List.setIfInBounds_toArray, List.set_cons_zero, List.set_cons_succ] at hp
        have hz1 := HW0.out.2.2.1.lt
        refine ⟨wc.heap.size, pv, cv, rfl, hp, ?_, ?_, ?_, ?_, by omega⟩
        · (repeat with_reducible refine Blk.far3 ?_ (by omega) _)
          exact HE.out.2.1
        · (repeat with_reducible refine Below.setCell ?_ (by dsimp only; omega) _)
          exact HE.out.2.2.1
        · refine Buf.mono ?_ (by omega : w.heap.size + 2 ≤ wc.heap.size + 1)
          (repeat with_reducible refine Buf.farB ?_ (by dsimp only; omega) _)
          exact HE.out.2.2.2
        · have := HE.out.2.1.lt
          simp only [setCell_hsz]
          exact this
    case rest =>
      obtain ⟨g7, pv, cv, rfl, hk7, hz, hbw, hbuf, hlt, hne⟩ := hcut
      have HB7 := Lib.hid (And.intro hk7 (And.intro hz (And.intro hbw (And.intro hbuf (And.intro hlt hne)))))
      have hlt7 := hk7.lt
      clear hk7 hz hbw hbuf HW0 hw0 HCL
      have hwn : IntKind.u32.wrap n = n := IntWalk.u32_in _ (by omega)
      go_wp2_with fail
      refine (HP.out _).mono ?_
      rintro e w1 ⟨rfl, hp, hb⟩
      have HF : Hid (FtSt wc g7 wc.heap.size (wc.heap.size + 1) (w.heap.size + 1) #[.int .i64 0, .int .u32 0, .string ⟨#[]⟩, .int .i64 0, .string ⟨#[]⟩, .int .i64 0, .int .u8 fl, .int .u32 ui, .int .u32 sz, .slice pv bl cv] (outC 4 n 0 0 0 0 (.slice none 0 0)) w1) := Lib.hid ⟨Blk.below (HB7.out.1.past _) hb (HB7.out.1.past _).lt, Blk.below (Blk.made _ _ _) hb (Blk.made _ _ _).lt, by have := hp; rw [World.size_alloc] at this; exact this, Blk.below (HB7.out.2.1.past _) hb (HB7.out.2.1.past _).lt, below_call ((Below.refl _ _).alloc (Nat.le_refl _) _) hb⟩
      clear hp hb
      go_wp2_with fail
      go_loopw [33] (fun i wr => (i = .int .i64 0 ∧ FtSt wc g7 wc.heap.size (wc.heap.size + 1) (w.heap.size + 1) #[.int .i64 0, .int .u32 0, .string ⟨#[]⟩, .int .i64 0, .string ⟨#[]⟩, .int .i64 0, .int .u8 fl, .int .u32 ui, .int .u32 sz, .slice pv bl cv] (outC 4 n 0 0 0 0 (.slice none 0 0)) wr) ∨ (i = .int .i64 1 ∧ FtSt wc g7 wc.heap.size (wc.heap.size + 1) (w.heap.size + 1) #[.int .i64 0, .int .u32 0, .string ⟨#[]⟩, .int .i64 0, .string ⟨#[]⟩, .int .i64 0, .int .u8 fl, .int .u32 ui, .int .u32 sz, .slice pv bl cv] (outC 4 n (orI 0 b1 1) (selI b1 fl) 0 0 (.slice none 0 0)) wr) ∨ (i = .int .i64 2 ∧ FtSt wc g7 wc.heap.size (wc.heap.size + 1) (w.heap.size + 1) #[.int .i64 0, .int .u32 0, .string ⟨#[]⟩, .int .i64 0, .string ⟨#[]⟩, .int .i64 0, .int .u8 fl, .int .u32 ui, .int .u32 sz, .slice pv bl cv] (outC 4 n (orI (orI 0 b1 1) b2 2) (selI b1 fl) (selI b2 ui) 0 (.slice none 0 0)) wr) ∨ (i = .int .i64 3 ∧ FtSt wc g7 wc.heap.size (wc.heap.size + 1) (w.heap.size + 1) #[.int .i64 0, .int .u32 0, .string ⟨#[]⟩, .int .i64 0, .string ⟨#[]⟩, .int .i64 0, .int .u8 fl, .int .u32 ui, .int .u32 sz, .slice pv bl cv] (outC 4 n (orI (orI (orI 0 b1 1) b2 2) b4 4) (selI b1 fl) (selI b2 ui) (selI b4 sz) (.slice none 0 0)) wr) ∨ (i = .int .i64 4 ∧ FtSt wc g7 wc.heap.size (wc.heap.size + 1) (w.heap.size + 1) #[.int .i64 0, .int .u32 0, .string ⟨#[]⟩, .int .i64 0, .string ⟨#[]⟩, .int .i64 0, .int .u8 fl, .int .u32 ui, .int .u32 sz, .slice pv bl cv] (outC 4 n (orI (orI (orI (orI 0 b1 1) b2 2) b4 4) b16 16) (selI b1 fl) (selI b2 ui) (selI b4 sz) (.slice (selA b16 pv) (selN b16 bl) (selN b16 cv))) wr)) (fun i _ => 4 - (intOf i).toNat)
      case atStart => exact .inl ⟨rfl, HF.out⟩
      case round =>
        rcases hrel with ⟨rfl, h⟩ | ⟨rfl, h⟩ | ⟨rfl, h⟩ | ⟨rfl, h⟩ | ⟨rfl, h⟩
        · have HB := Lib.hid h
          obtain ⟨q0, q1, q2⟩ := prt0 h.2.2.1
          obtain ⟨⟨c0, c1, c2, c3, c4, c5, c6, c7, c8, c9⟩, -⟩ := Blk.ten h.1
          have z5 : wr.cell? ⟨wc.heap.size, 5, none⟩ = some (.int .i64 0) := by rw [h.2.1.cell]; rfl
          have f5 := h.2.1.frz 5
          have hlt1 := h.1.lt
          have hlt2 := h.2.1.lt
          have hlt3 := h.2.2.1.lt
          clear h
          cases hb : b1 with
          | true =>
            rw [hb] at Hb1
            have hd := Hb1.out
            have HC := Lib.hid (copy0_any 0 0 0 0 fl ui sz ⟨#[]⟩ ⟨#[]⟩ pv bl cv wc.heap.size)
            go_wp2_with fail
            refine (HC.out ((outC 4 n 0 0 0 0 (.slice none 0 0)).setIfInBounds 5 (.int .i64 (bits .or .i64 0 1))) (.int .u8 0) _ ?blk0 rfl).mono ?_
            · first | exact (HB.out.2.1.put 5 _).past _ | exact (HB.out.2.1.past _).put 5 _
            rintro e w2 ⟨rfl, hk, hg⟩
            have HF : Hid (FtSt wc g7 wc.heap.size (wc.heap.size + 1) (w.heap.size + 1) #[.int .i64 0, .int .u32 0, .string ⟨#[]⟩, .int .i64 0, .string ⟨#[]⟩, .int .i64 0, .int .u8 fl, .int .u32 ui, .int .u32 sz, .slice pv bl cv] (outC 4 n (orI 0 true 1) (selI true fl) 0 0 (.slice none 0 0)) w2) := Lib.hid (by
              skip
              first
              | exact (((HB.out.put (by omega) (by omega) (by omega) (by omega) 5 _).past _).grown (by omega) (by omega) (by omega) (by omega) hg hk)
              | exact (((HB.out.past _).put (by omega) (by omega) (by omega) (by omega) 5 _).grown (by omega) (by omega) (by omega) (by omega) hg hk))
            clear hk hg
            go_wp2_with fail
            go_roundw
            case rel => exact .inr (.inl ⟨rfl, HF.out⟩)
            case measure => simp [intOf]
          | false =>
            rw [hb] at Hb1
            have hd := Hb1.out
            go_wp2_with fail
            go_roundw
            case rel => exact .inr (.inl ⟨rfl, by exact HB.out.past _⟩)
            case measure => simp [intOf]
        · have HB := Lib.hid h
          obtain ⟨q0, q1, q2⟩ := prt1 h.2.2.1
          obtain ⟨⟨c0, c1, c2, c3, c4, c5, c6, c7, c8, c9⟩, -⟩ := Blk.ten h.1
          have z5 : wr.cell? ⟨wc.heap.size, 5, none⟩ = some (.int .i64 (orI 0 b1 1)) := by rw [h.2.1.cell]; rfl
          have f5 := h.2.1.frz 5
          have hlt1 := h.1.lt
          have hlt2 := h.2.1.lt
          have hlt3 := h.2.2.1.lt
          obtain ⟨x, hx⟩ : ∃ x : Int, x = (orI 0 b1 1) := ⟨_, rfl⟩
          rw [← hx] at z5
          have HX := Lib.hid hx
          clear hx
          clear h
          cases hb : b2 with
          | true =>
            rw [hb] at Hb2
            have hd := Hb2.out
            have HC := Lib.hid (copy1_any 0 0 0 0 fl ui sz ⟨#[]⟩ ⟨#[]⟩ pv bl cv wc.heap.size)
            go_wp2_with fail
            refine (HC.out ((outC 4 n (orI 0 b1 1) (selI b1 fl) 0 0 (.slice none 0 0)).setIfInBounds 5 (.int .i64 (bits .or .i64 x 2))) (.int .u32 0) _ ?blk1 rfl).mono ?_
            · first | exact (HB.out.2.1.put 5 _).past _ | exact (HB.out.2.1.past _).put 5 _
            rintro e w2 ⟨rfl, hk, hg⟩
            have HF : Hid (FtSt wc g7 wc.heap.size (wc.heap.size + 1) (w.heap.size + 1) #[.int .i64 0, .int .u32 0, .string ⟨#[]⟩, .int .i64 0, .string ⟨#[]⟩, .int .i64 0, .int .u8 fl, .int .u32 ui, .int .u32 sz, .slice pv bl cv] (outC 4 n (orI (orI 0 b1 1) true 2) (selI b1 fl) (selI true ui) 0 (.slice none 0 0)) w2) := Lib.hid (by
              obtain rfl := HX.out
              first
              | exact (((HB.out.put (by omega) (by omega) (by omega) (by omega) 5 _).past _).grown (by omega) (by omega) (by omega) (by omega) hg hk)
              | exact (((HB.out.past _).put (by omega) (by omega) (by omega) (by omega) 5 _).grown (by omega) (by omega) (by omega) (by omega) hg hk))
            clear hk hg
            go_wp2_with fail
            go_roundw
            case rel => exact .inr (.inr (.inl ⟨rfl, HF.out⟩))
            case measure => simp [intOf]
          | false =>
            rw [hb] at Hb2
            have hd := Hb2.out
            go_wp2_with fail
            go_roundw
            case rel => exact .inr (.inr (.inl ⟨rfl, by obtain rfl := HX.out; exact HB.out.past _⟩))
            case measure => simp [intOf]
        · have HB := Lib.hid h
          obtain ⟨q0, q1, q2⟩ := prt2 h.2.2.1
          obtain ⟨⟨c0, c1, c2, c3, c4, c5, c6, c7, c8, c9⟩, -⟩ := Blk.ten h.1
          have z5 : wr.cell? ⟨wc.heap.size, 5, none⟩ = some (.int .i64 (orI (orI 0 b1 1) b2 2)) := by rw [h.2.1.cell]; rfl
          have f5 := h.2.1.frz 5
          have hlt1 := h.1.lt
          have hlt2 := h.2.1.lt
          have hlt3 := h.2.2.1.lt
          obtain ⟨x, hx⟩ : ∃ x : Int, x = (orI (orI 0 b1 1) b2 2) := ⟨_, rfl⟩
          rw [← hx] at z5
          have HX := Lib.hid hx
          clear hx
          clear h
          cases hb : b4 with
          | true =>
            rw [hb] at Hb4
            have hd := Hb4.out
            have HC := Lib.hid (copy2_any 0 0 0 0 fl ui sz ⟨#[]⟩ ⟨#[]⟩ pv bl cv wc.heap.size)
            go_wp2_with fail
            refine (HC.out ((outC 4 n (orI (orI 0 b1 1) b2 2) (selI b1 fl) (selI b2 ui) 0 (.slice none 0 0)).setIfInBounds 5 (.int .i64 (bits .or .i64 x 4))) (.int .u32 0) _ ?blk2 rfl).mono ?_
            · first | exact (HB.out.2.1.put 5 _).past _ | exact (HB.out.2.1.past _).put 5 _
            rintro e w2 ⟨rfl, hk, hg⟩
            have HF : Hid (FtSt wc g7 wc.heap.size (wc.heap.size + 1) (w.heap.size + 1) #[.int .i64 0, .int .u32 0, .string ⟨#[]⟩, .int .i64 0, .string ⟨#[]⟩, .int .i64 0, .int .u8 fl, .int .u32 ui, .int .u32 sz, .slice pv bl cv] (outC 4 n (orI (orI (orI 0 b1 1) b2 2) true 4) (selI b1 fl) (selI b2 ui) (selI true sz) (.slice none 0 0)) w2) := Lib.hid (by
              obtain rfl := HX.out
              first
              | exact (((HB.out.put (by omega) (by omega) (by omega) (by omega) 5 _).past _).grown (by omega) (by omega) (by omega) (by omega) hg hk)
              | exact (((HB.out.past _).put (by omega) (by omega) (by omega) (by omega) 5 _).grown (by omega) (by omega) (by omega) (by omega) hg hk))
            clear hk hg
            go_wp2_with fail
            go_roundw
            case rel => exact .inr (.inr (.inr (.inl ⟨rfl, HF.out⟩)))
            case measure => simp [intOf]
          | false =>
            rw [hb] at Hb4
            have hd := Hb4.out
            go_wp2_with fail
            go_roundw
            case rel => exact .inr (.inr (.inr (.inl ⟨rfl, by obtain rfl := HX.out; exact HB.out.past _⟩)))
            case measure => simp [intOf]
        · have HB := Lib.hid h
          obtain ⟨q0, q1, q2⟩ := prt3 h.2.2.1
          obtain ⟨⟨c0, c1, c2, c3, c4, c5, c6, c7, c8, c9⟩, -⟩ := Blk.ten h.1
          have z5 : wr.cell? ⟨wc.heap.size, 5, none⟩ = some (.int .i64 (orI (orI (orI 0 b1 1) b2 2) b4 4)) := by rw [h.2.1.cell]; rfl
          have f5 := h.2.1.frz 5
          have hlt1 := h.1.lt
          have hlt2 := h.2.1.lt
          have hlt3 := h.2.2.1.lt
          obtain ⟨x, hx⟩ : ∃ x : Int, x = (orI (orI (orI 0 b1 1) b2 2) b4 4) := ⟨_, rfl⟩
          rw [← hx] at z5
          have HX := Lib.hid hx
          clear hx
          clear h
          cases hb : b16 with
          | true =>
            rw [hb] at Hb16
            have hd := Hb16.out
            have HC := Lib.hid (copy3_any 0 0 0 0 fl ui sz ⟨#[]⟩ ⟨#[]⟩ pv bl cv wc.heap.size)
            go_wp2_with fail
            refine (HC.out ((outC 4 n (orI (orI (orI 0 b1 1) b2 2) b4 4) (selI b1 fl) (selI b2 ui) (selI b4 sz) (.slice none 0 0)).setIfInBounds 5 (.int .i64 (bits .or .i64 x 16))) (.slice none 0 0) _ ?blk3 rfl).mono ?_
            · first | exact (HB.out.2.1.put 5 _).past _ | exact (HB.out.2.1.past _).put 5 _
            rintro e w2 ⟨rfl, hk, hg⟩
            have HF : Hid (FtSt wc g7 wc.heap.size (wc.heap.size + 1) (w.heap.size + 1) #[.int .i64 0, .int .u32 0, .string ⟨#[]⟩, .int .i64 0, .string ⟨#[]⟩, .int .i64 0, .int .u8 fl, .int .u32 ui, .int .u32 sz, .slice pv bl cv] (outC 4 n (orI (orI (orI (orI 0 b1 1) b2 2) b4 4) true 16) (selI b1 fl) (selI b2 ui) (selI b4 sz) (.slice (selA true pv) (selN true bl) (selN true cv))) w2) := Lib.hid (by
              obtain rfl := HX.out
              first
              | exact (((HB.out.put (by omega) (by omega) (by omega) (by omega) 5 _).past _).grown (by omega) (by omega) (by omega) (by omega) hg hk)
              | exact (((HB.out.past _).put (by omega) (by omega) (by omega) (by omega) 5 _).grown (by omega) (by omega) (by omega) (by omega) hg hk))
            clear hk hg
            go_wp2_with fail
            go_roundw
            case rel => exact .inr (.inr (.inr (.inr (⟨rfl, HF.out⟩))))
            case measure => simp [intOf]
          | false =>
            rw [hb] at Hb16
            have hd := Hb16.out
            go_wp2_with fail
            go_roundw
            case rel => exact .inr (.inr (.inr (.inr (⟨rfl, by obtain rfl := HX.out; exact HB.out.past _⟩))))
            case measure => simp [intOf]
        · have HB := Lib.hid h
          obtain ⟨x, hx⟩ : ∃ x : Int, x = (orI (orI (orI (orI 0 b1 1) b2 2) b4 4) b16 16) := ⟨_, rfl⟩
          obtain ⟨fx, hfx⟩ : ∃ x : Int, x = selI b1 fl := ⟨_, rfl⟩
          obtain ⟨ux, hux⟩ : ∃ x : Int, x = selI b2 ui := ⟨_, rfl⟩
          obtain ⟨sx, hsx⟩ : ∃ x : Int, x = selI b4 sz := ⟨_, rfl⟩
          obtain ⟨px, hpx⟩ : ∃ x : Option Addr, x = selA b16 pv := ⟨_, rfl⟩
          obtain ⟨bx, hbx⟩ : ∃ x : Nat, x = selN b16 bl := ⟨_, rfl⟩
          obtain ⟨cx, hcx⟩ : ∃ x : Nat, x = selN b16 cv := ⟨_, rfl⟩
          have hQ : Blk wr wc.heap.size 26 (outC 4 n x fx ux sx (.slice px bx cx)) := by rw [hx, hfx, hux, hsx, hpx, hbx, hcx]; exact h.2.1
          have HE := Lib.hid (And.intro hx (And.intro hfx (And.intro hux (And.intro hsx (And.intro hpx (And.intro hbx hcx))))))
          obtain ⟨⟨d0, d1, d2, d3, d4, d5, d6, d7, d8, d9⟩, -⟩ := Blk.ten hQ
          clear hx hfx hux hsx hpx hbx hcx hQ
          obtain ⟨⟨z0, z1, z2, z3, z4, z5, z6, z7, z8, z9⟩, f0, f1, f2, f3, f4, f5, f6, f7, f8, f9⟩ := Blk.ten h.2.2.2.1
          clear h
          go_wp2_with fail
          have hp := ((((((((((HB.out.2.2.2.1.put 0 (.int .i64 4)).put 1 (.int .u32 n)).put 2 (.string ⟨#[]⟩)).put 3 (.int .i64 0)).put 4 (.string ⟨#[]⟩)).put 5 (.int .i64 x)).put 6 (.int .u8 fx)).put 7 (.int .u32 ux)).put 8 (.int .u32 sx)).put 9 (.slice px bx cx))
          simp only [List.setIfInBounds_toArray, List.set_cons_zero, List.set_cons_succ] at hp
          refine bodyPost_ret (v := .agg #[.int .i64 4, .int .u32 n, .string ⟨#[]⟩, .int .i64 0, .string ⟨#[]⟩, .int .i64 x, .int .u8 fx, .int .u32 ux, .int .u32 sx, .slice px bx cx]) (results_ten1 (by rfl) (by rfl) hp) rfl ⟨pv, cv, ?_, ?_, ?_⟩
          · obtain ⟨rfl, rfl, rfl, rfl, rfl, rfl, rfl⟩ := HE.out
            obtain rfl := HSZ.out
            rw [HBL.out]; rfl
          · rw [HBL.out]
            refine Buf.mono ?_ (by omega : w.heap.size ≤ w.heap.size + 2)
            (repeat with_reducible refine Buf.farB ?_ (by dsimp only; omega) _)
            exact HB7.out.2.2.2.1.below HB.out.2.2.2.2 (Nat.le_refl _)
          · (repeat with_reducible refine Below.setCell ?_ (by dsimp only; omega) _)
            exact below_call HB7.out.2.2.1 HB.out.2.2.2.2
end Go.Proofs.YtgdhakkfddmkjaaDoor
namespace Go.Proofs.YtgdhakkfddmkjaaDoor
open Go.RowKit

/-- A form: two functions, each with what it captured. -/
def fmV (f1 f2 : FuncId) (c : Array Value) : Value := .agg #[.func (.func f1) #[] c, .func (.func f2) #[] #[]]
theorem zeroFm (w : World) : (zeroValue 51).run Tryd.prog w = .ok (.agg #[.nilFunc, .nilFunc]) w := by kernel_rfl
/-- The map of forms, the words' cells at g1 .. g10. -/
def frmMap (g1 g2 g3 g6 g7 g8 g10 : Nat) : List (Int × Value) := [
  (1, fmV 58 59 #[.pointer (some ⟨g1, 0, none⟩)]),
  (2, fmV 58 59 #[.pointer (some ⟨g2, 0, none⟩)]),
  (3, fmV 58 59 #[.pointer (some ⟨g3, 0, none⟩)]),
  (4, fmV 60 62 #[]),
  (5, fmV 38 40 #[]),
  (6, fmV 65 66 #[.pointer (some ⟨g6, 0, none⟩)]),
  (7, fmV 65 66 #[.pointer (some ⟨g7, 0, none⟩)]),
  (8, fmV 65 66 #[.pointer (some ⟨g8, 0, none⟩)]),
  (9, fmV 69 71 #[]),
  (10, fmV 65 66 #[.pointer (some ⟨g10, 0, none⟩)])]
/-- The words and their cells. -/
def frmWd (g1 g2 g3 g6 g7 g8 g10 : Nat) : List (Nat × ByteArray) := [(g10, ⟨#[43]⟩), (g8, ⟨#[42, 32, 66, 65, 68]⟩), (g7, ⟨#[42, 32, 66, 89, 69]⟩), (g6, ⟨#[42, 32, 79, 75]⟩), (g3, ⟨#[69, 88, 80, 85, 78, 71, 69]⟩), (g2, ⟨#[82, 69, 67, 69, 78, 84]⟩), (g1, ⟨#[69, 88, 73, 83, 84, 83]⟩)]
/-- How far the map is made: its entries, and the words' cells. -/
def FmSt (w : World) (b : Nat) (l : List (Int × Value)) (q : List (Nat × ByteArray)) (wi : World) : Prop :=
  KMap wi b (Value.int .i64) l ∧ Below w.heap.size w wi ∧ w.heap.size ≤ b ∧ ∀ p ∈ q, Blk wi p.1 9 #[.string p.2] ∧ p.1 ≠ b
theorem FmSt.call {w : World} {b : Nat} {l : List (Int × Value)} {q : List (Nat × ByteArray)} {wi w' : World} (h : FmSt w b l q wi) (hb : Below wi.heap.size wi w') : FmSt w b l q w' :=
  ⟨h.1.below hb h.1.lt, h.2.1.trans (hb.mono h.2.1.size), h.2.2.1, fun p hp => ⟨(h.2.2.2 p hp).1.below hb (h.2.2.2 p hp).1.lt, (h.2.2.2 p hp).2⟩⟩
theorem FmSt.add {w : World} {b : Nat} {l : List (Int × Value)} {q : List (Nat × ByteArray)} {wi w' : World} (h : FmSt w b l q wi) (hb : Below wi.heap.size wi w') {g : Nat} {s : ByteArray} (hk : Blk w' g 9 #[.string s]) (hg : wi.heap.size ≤ g) : FmSt w b l ((g, s) :: q) w' := by
  refine ⟨(h.call hb).1, (h.call hb).2.1, h.2.2.1, fun p hp => ?_⟩
  rcases List.mem_cons.1 hp with rfl | hp
  · exact ⟨hk, by have := h.1.lt; show g ≠ b; omega⟩
  · exact (h.call hb).2.2.2 p hp
theorem FmSt.put {w : World} {b : Nat} {l : List (Int × Value)} {q : List (Nat × ByteArray)} {wi : World} (h : FmSt w b l q wi) (a : Int) (v : Value) (hn : lookK l a = none) :
    ∃ w', (Instr.mapUpdate 52 (.map (some b)) (.int .i64 a) v).run Tryd.prog wi = .ok () w' ∧ FmSt w b (l ++ [(a, v)]) q w' := by
  obtain ⟨w', hr, hm, hg⟩ := h.1.put (Kp.int (P := Tryd.prog) Tryd.underlying3) Tryd.underlying52 a v hn
  exact ⟨w', hr, hm, below_grow h.2.1 hg h.2.1.size h.2.2.1, h.2.2.1, fun p hp => ⟨(h.2.2.2 p hp).1.grown hg (fun e => (h.2.2.2 p hp).2 (by injection e)), (h.2.2.2 p hp).2⟩⟩
theorem number_mk' (s : ByteArray) (w : World) :
    Calls Tryd.prog 36 #[.string s] w fun e w' => ∃ g, e = .returned (fmV 58 59 #[.pointer (some ⟨g, 0, none⟩)]) ∧ Blk w' g 9 #[.string s] ∧ w.heap.size ≤ g ∧ Below w.heap.size w w' :=
  (number_mk s w).mono fun _ _ h => ⟨_, h.1, h.2.1, Nat.le_refl _, h.2.2⟩
theorem text_mk' (s : ByteArray) (w : World) :
    Calls Tryd.prog 41 #[.string s] w fun e w' => ∃ g, e = .returned (fmV 65 66 #[.pointer (some ⟨g, 0, none⟩)]) ∧ Blk w' g 9 #[.string s] ∧ w.heap.size ≤ g ∧ Below w.heap.size w w' :=
  (text_mk s w).mono fun _ _ h => ⟨_, h.1, h.2.1, Nat.le_refl _, h.2.2⟩
theorem tagged_mk' (w : World) :
    Calls Tryd.prog 42 #[] w fun e w' => e = .returned (fmV 69 71 #[]) ∧ Below w.heap.size w w' := tagged_mk w
theorem fetched_mk' (w : World) :
    Calls Tryd.prog 37 #[] w fun e w' => e = .returned (fmV 60 62 #[]) ∧ Below w.heap.size w w' := fetched_mk w
/-- What forms hands back and leaves: the map, and the captured words in cells of their own. -/
def FmPost (w : World) (e : Ending) (w' : World) : Prop :=
  ∃ b g1 g2 g3 g6 g7 g8 g10, e = .returned (.map (some b)) ∧ FmSt w b (frmMap g1 g2 g3 g6 g7 g8 g10) (frmWd g1 g2 g3 g6 g7 g8 g10) w'

set_option maxRecDepth 100000 in
set_option maxHeartbeats 6400000 in
theorem forms_any (w : World) : Calls Tryd.prog 26 #[] w (FmPost w) := by
  have hmm := @run_makeMap Tryd.prog
  have HS : Hid (FmSt w w.heap.size [] [] (w.alloc (.map #[] 0))) := Lib.hid ⟨KMap.made w, (Below.refl _ _).alloc (Nat.le_refl _) _, Nat.le_refl _, fun p hp => by cases hp⟩
  have HN := Lib.hid number_mk'
  have HT := Lib.hid text_mk'
  have HF := Lib.hid fetched_mk'
  have HG := Lib.hid tagged_mk'
  have HFV : Hid (fmV 38 40 #[] = .agg #[.func (.func 38) #[] #[], .func (.func 40) #[] #[]]) := Lib.hid rfl
  generalize hb : w.heap.size = b at HS
  have HBE := Lib.hid hb
  go_enter Tryd.func26, Tryd.ntmps26
  go_wp2_with fail
  try rw [hb]
  clear hb
  refine ((HN).out _ _).mono ?_
  rintro e w1 ⟨g1, rfl, hk, hg, hb⟩
  obtain ⟨w2, hr, hs⟩ := (HS.out.add hb hk hg).put 1 (fmV 58 59 #[.pointer (some ⟨g1, 0, none⟩)]) (by rfl)
  have HS1 := Lib.hid hs
  have HR := Lib.hid hr
  clear hs hr HS hk hg hb
  have HS := Lib.hid HS1.out
  clear HS1
  go_wp2_with fail
  rw [HR.out]
  simp only [Result.andThen]
  rw [Oper.upon_skip]
  clear HR
  go_wp2_with fail
  refine ((HN).out _ _).mono ?_
  rintro e w1 ⟨g2, rfl, hk, hg, hb⟩
  obtain ⟨w2, hr, hs⟩ := (HS.out.add hb hk hg).put 2 (fmV 58 59 #[.pointer (some ⟨g2, 0, none⟩)]) (by rfl)
  have HS2 := Lib.hid hs
  have HR := Lib.hid hr
  clear hs hr HS hk hg hb
  have HS := Lib.hid HS2.out
  clear HS2
  go_wp2_with fail
  rw [HR.out]
  simp only [Result.andThen]
  rw [Oper.upon_skip]
  clear HR
  go_wp2_with fail
  refine ((HN).out _ _).mono ?_
  rintro e w1 ⟨g3, rfl, hk, hg, hb⟩
  obtain ⟨w2, hr, hs⟩ := (HS.out.add hb hk hg).put 3 (fmV 58 59 #[.pointer (some ⟨g3, 0, none⟩)]) (by rfl)
  have HS3 := Lib.hid hs
  have HR := Lib.hid hr
  clear hs hr HS hk hg hb
  have HS := Lib.hid HS3.out
  clear HS3
  go_wp2_with fail
  rw [HR.out]
  simp only [Result.andThen]
  rw [Oper.upon_skip]
  clear HR
  go_wp2_with fail
  refine ((HF).out _).mono ?_
  rintro e w1 ⟨rfl, hb⟩
  obtain ⟨w2, hr, hs⟩ := (HS.out.call hb).put 4 (fmV 60 62 #[]) (by rfl)
  have HS4 := Lib.hid hs
  have HR := Lib.hid hr
  clear hs hr HS hb
  have HS := Lib.hid HS4.out
  clear HS4
  go_wp2_with fail
  rw [HR.out]
  simp only [Result.andThen]
  rw [Oper.upon_skip]
  clear HR
  go_wp2_with fail
  obtain ⟨w2, hr, hs⟩ := HS.out.put 5 (fmV 38 40 #[]) (by rfl)
  rw [HFV.out] at hr
  have HS5 := Lib.hid hs
  have HR := Lib.hid hr
  clear hs hr HS 
  have HS := Lib.hid HS5.out
  clear HS5

  rw [HR.out]
  simp only [Result.andThen]
  rw [Oper.upon_skip]
  clear HR
  go_wp2_with fail
  refine ((HT).out _ _).mono ?_
  rintro e w1 ⟨g6, rfl, hk, hg, hb⟩
  obtain ⟨w2, hr, hs⟩ := (HS.out.add hb hk hg).put 6 (fmV 65 66 #[.pointer (some ⟨g6, 0, none⟩)]) (by rfl)
  have HS6 := Lib.hid hs
  have HR := Lib.hid hr
  clear hs hr HS hk hg hb
  have HS := Lib.hid HS6.out
  clear HS6
  go_wp2_with fail
  rw [HR.out]
  simp only [Result.andThen]
  rw [Oper.upon_skip]
  clear HR
  go_wp2_with fail
  refine ((HT).out _ _).mono ?_
  rintro e w1 ⟨g7, rfl, hk, hg, hb⟩
  obtain ⟨w2, hr, hs⟩ := (HS.out.add hb hk hg).put 7 (fmV 65 66 #[.pointer (some ⟨g7, 0, none⟩)]) (by rfl)
  have HS7 := Lib.hid hs
  have HR := Lib.hid hr
  clear hs hr HS hk hg hb
  have HS := Lib.hid HS7.out
  clear HS7
  go_wp2_with fail
  rw [HR.out]
  simp only [Result.andThen]
  rw [Oper.upon_skip]
  clear HR
  go_wp2_with fail
  refine ((HT).out _ _).mono ?_
  rintro e w1 ⟨g8, rfl, hk, hg, hb⟩
  obtain ⟨w2, hr, hs⟩ := (HS.out.add hb hk hg).put 8 (fmV 65 66 #[.pointer (some ⟨g8, 0, none⟩)]) (by rfl)
  have HS8 := Lib.hid hs
  have HR := Lib.hid hr
  clear hs hr HS hk hg hb
  have HS := Lib.hid HS8.out
  clear HS8
  go_wp2_with fail
  rw [HR.out]
  simp only [Result.andThen]
  rw [Oper.upon_skip]
  clear HR
  go_wp2_with fail
  refine ((HG).out _).mono ?_
  rintro e w1 ⟨rfl, hb⟩
  obtain ⟨w2, hr, hs⟩ := (HS.out.call hb).put 9 (fmV 69 71 #[]) (by rfl)
  have HS9 := Lib.hid hs
  have HR := Lib.hid hr
  clear hs hr HS hb
  have HS := Lib.hid HS9.out
  clear HS9
  go_wp2_with fail
  rw [HR.out]
  simp only [Result.andThen]
  rw [Oper.upon_skip]
  clear HR
  go_wp2_with fail
  refine ((HT).out _ _).mono ?_
  rintro e w1 ⟨g10, rfl, hk, hg, hb⟩
  obtain ⟨w2, hr, hs⟩ := (HS.out.add hb hk hg).put 10 (fmV 65 66 #[.pointer (some ⟨g10, 0, none⟩)]) (by rfl)
  have HS10 := Lib.hid hs
  have HR := Lib.hid hr
  clear hs hr HS hk hg hb
  have HS := Lib.hid HS10.out
  clear HS10
  go_wp2_with fail
  rw [HR.out]
  simp only [Result.andThen]
  rw [Oper.upon_skip]
  clear HR
  go_wp2_with fail
  go_ret
  exact ⟨_, _, _, _, _, _, _, _, rfl, HS.out⟩
end Go.Proofs.YtgdhakkfddmkjaaDoor
namespace Go.Proofs.YtgdhakkfddmkjaaDoor
open Go.RowKit

/-- Whether two responses are the same, field by field. -/
def sameF (k n st it fl ui sz : Int) (tg tx : ByteArray) (l : List UInt8) (k' n' st' it' fl' ui' sz' : Int) (tg' tx' : ByteArray) (l' : List UInt8) : Bool :=
  decide (k = k') && (decide (n = n') && (decide (tg = tg') && (decide (st = st') && (decide (tx = tx') && (decide (it = it') && (decide (fl = fl') && (decide (ui = ui') && (decide (sz = sz') && decide (l = l')))))))))
theorem ba_ne {x y : ByteArray} (h : x ≠ y) : (x.toList == y.toList) = false := by
  cases e : (x.toList == y.toList) with
  | false => rfl
  | true => exact absurd ((eqS_iff x y).1 e) h
theorem int_ne {x y : Int} (h : x ≠ y) : (x == y) = false := beq_eq_false_iff_ne.2 h

set_option maxRecDepth 100000 in
set_option maxHeartbeats 6400000 in
theorem same_any (k n st it fl ui sz : Int) (tg tx : ByteArray) (P : Option Addr) (c : Nat) (l : List UInt8) (k' n' st' it' fl' ui' sz' : Int) (tg' tx' : ByteArray) (P' : Option Addr) (c' : Nat) (l' : List UInt8) (w : World) (hb : Bys w w.heap.size P l) (hb' : Bys w w.heap.size P' l') (hl : l.length ≤ 1048576) (hl' : l'.length ≤ 1048576) :
    Calls Tryd.prog 16 #[.agg #[.int .i64 k, .int .u32 n, .string tg, .int .i64 st, .string tx, .int .i64 it, .int .u8 fl, .int .u32 ui, .int .u32 sz, .slice P l.length c], .agg #[.int .i64 k', .int .u32 n', .string tg', .int .i64 st', .string tx', .int .i64 it', .int .u8 fl', .int .u32 ui', .int .u32 sz', .slice P' l'.length c']] w fun e w' => e = .returned (.bool (sameF k n st it fl ui sz tg tx l k' n' st' it' fl' ui' sz' tg' tx' l')) ∧ Below w.heap.size w w' := by
  have HE : Hid (∀ W, Below w.heap.size w W → Calls Tryd.prog 17 #[.slice P l.length c, .slice P' l'.length c'] W fun e w' => e = .returned (.bool (decide (l = l'))) ∧ ∃ j, w' = W.drewN j) := Lib.hid (fun W hW => equal_quiet P P' c c' l l' W w.heap.size w.heap.size (hb.below hW) (hb'.below hW) hl hl')
  unfold sameF
  generalize decide (l = l') = le at *
  generalize l.length = bl at *
  generalize l'.length = bl' at *
  clear hb hb' hl hl'
  by_cases h0 : k = k'
  rotate_left
  · rw [decide_eq_false h0]
    have hd := int_ne h0
    clear h0 HE
    simp only [Bool.false_and, Bool.and_false]
    go_enter Tryd.func16, Tryd.ntmps16
    go_wp2_with fail
    go_ret
    exact ⟨rfl, (((Below.refl _ _).alloc (Nat.le_refl _) _).alloc (by rw [World.size_alloc]; omega) _)⟩
  subst h0
  rw [show decide (k = k) = true from decide_eq_true rfl, Bool.true_and]
  by_cases h1 : n = n'
  rotate_left
  · rw [decide_eq_false h1]
    have hd := int_ne h1
    clear h1 HE
    simp only [Bool.false_and, Bool.and_false]
    go_enter Tryd.func16, Tryd.ntmps16
    go_wp2_with fail
    go_ret
    exact ⟨rfl, (((Below.refl _ _).alloc (Nat.le_refl _) _).alloc (by rw [World.size_alloc]; omega) _)⟩
  subst h1
  rw [show decide (n = n) = true from decide_eq_true rfl, Bool.true_and]
  by_cases h2 : tg = tg'
  rotate_left
  · rw [decide_eq_false h2]
    have hd := ba_ne h2
    clear h2 HE
    simp only [Bool.false_and, Bool.and_false]
    go_enter Tryd.func16, Tryd.ntmps16
    go_wp2_with fail
    go_ret
    exact ⟨rfl, (((Below.refl _ _).alloc (Nat.le_refl _) _).alloc (by rw [World.size_alloc]; omega) _)⟩
  subst h2
  rw [show decide (tg = tg) = true from decide_eq_true rfl, Bool.true_and]
  by_cases h3 : st = st'
  rotate_left
  · rw [decide_eq_false h3]
    have hd := int_ne h3
    clear h3 HE
    simp only [Bool.false_and, Bool.and_false]
    go_enter Tryd.func16, Tryd.ntmps16
    go_wp2_with fail
    go_ret
    exact ⟨rfl, (((Below.refl _ _).alloc (Nat.le_refl _) _).alloc (by rw [World.size_alloc]; omega) _)⟩
  subst h3
  rw [show decide (st = st) = true from decide_eq_true rfl, Bool.true_and]
  by_cases h4 : tx = tx'
  rotate_left
  · rw [decide_eq_false h4]
    have hd := ba_ne h4
    clear h4 HE
    simp only [Bool.false_and, Bool.and_false]
    go_enter Tryd.func16, Tryd.ntmps16
    go_wp2_with fail
    go_ret
    exact ⟨rfl, (((Below.refl _ _).alloc (Nat.le_refl _) _).alloc (by rw [World.size_alloc]; omega) _)⟩
  subst h4
  rw [show decide (tx = tx) = true from decide_eq_true rfl, Bool.true_and]
  by_cases h5 : it = it'
  rotate_left
  · rw [decide_eq_false h5]
    have hd := int_ne h5
    clear h5 HE
    simp only [Bool.false_and, Bool.and_false]
    go_enter Tryd.func16, Tryd.ntmps16
    go_wp2_with fail
    go_ret
    exact ⟨rfl, (((Below.refl _ _).alloc (Nat.le_refl _) _).alloc (by rw [World.size_alloc]; omega) _)⟩
  subst h5
  rw [show decide (it = it) = true from decide_eq_true rfl, Bool.true_and]
  by_cases h6 : fl = fl'
  rotate_left
  · rw [decide_eq_false h6]
    have hd := int_ne h6
    clear h6 HE
    simp only [Bool.false_and, Bool.and_false]
    go_enter Tryd.func16, Tryd.ntmps16
    go_wp2_with fail
    go_ret
    exact ⟨rfl, (((Below.refl _ _).alloc (Nat.le_refl _) _).alloc (by rw [World.size_alloc]; omega) _)⟩
  subst h6
  rw [show decide (fl = fl) = true from decide_eq_true rfl, Bool.true_and]
  by_cases h7 : ui = ui'
  rotate_left
  · rw [decide_eq_false h7]
    have hd := int_ne h7
    clear h7 HE
    simp only [Bool.false_and, Bool.and_false]
    go_enter Tryd.func16, Tryd.ntmps16
    go_wp2_with fail
    go_ret
    exact ⟨rfl, (((Below.refl _ _).alloc (Nat.le_refl _) _).alloc (by rw [World.size_alloc]; omega) _)⟩
  subst h7
  rw [show decide (ui = ui) = true from decide_eq_true rfl, Bool.true_and]
  by_cases h8 : sz = sz'
  rotate_left
  · rw [decide_eq_false h8]
    have hd := int_ne h8
    clear h8 HE
    simp only [Bool.false_and, Bool.and_false]
    go_enter Tryd.func16, Tryd.ntmps16
    go_wp2_with fail
    go_ret
    exact ⟨rfl, (((Below.refl _ _).alloc (Nat.le_refl _) _).alloc (by rw [World.size_alloc]; omega) _)⟩
  subst h8
  rw [show decide (sz = sz) = true from decide_eq_true rfl, Bool.true_and]
  go_enter Tryd.func16, Tryd.ntmps16
  go_wp2_with fail
  refine (HE.out _ (((Below.refl _ _).alloc (Nat.le_refl _) _).alloc (by rw [World.size_alloc]; omega) _)).mono ?_
  rintro e w' ⟨rfl, j, rfl⟩
  go_wp2_with fail
  go_ret
  exact ⟨rfl, YtgdhakkfddmkjaaDoor.Below.many (((Below.refl _ _).alloc (Nat.le_refl _) _).alloc (by rw [World.size_alloc]; omega) _) j⟩
end Go.Proofs.YtgdhakkfddmkjaaDoor
