/- The walk of resp.Valid, whatever form the kind has. · The walks of flag.Change, and of the reference's Name, Change and List. · The walks of the reference's Name, flag, List and Change. · The walks of the reference's List, Change and Parse. -/
import Derived.Deep.RegionHeld3
import Derived.Test.YtgdhakkfddmkjaaDoorJ8
import Derived.Test.YtgdhakkfddmkjaaDoorJ6
import Derived.Deep.DeepCutAuto
set_option linter.unusedVariables false
set_option linter.unusedSimpArgs false
namespace Go.Proofs.YtgdhakkfddmkjaaDoor
open Go.RowKit

theorem kMapFm (w : World) : Kp Tryd.prog 3 (Value.int .i64) := Kp.int Tryd.underlying3
theorem w0_facts (w : World) (cs : Array Value) : Below w.heap.size w (w.alloc (.cells cs 26)) ∧ Blk (w.alloc (.cells cs 26)) w.heap.size 26 cs ∧ w.heap.size < (w.alloc (.cells cs 26)).heap.size := ⟨(Below.refl _ _).alloc (Nat.le_refl _) _, Blk.made w _ _, (Blk.made w _ _).lt⟩

set_option maxRecDepth 100000 in
set_option maxHeartbeats 6400000 in
theorem valid_none (k n st it fl ui sz : Int) (tg tx : ByteArray) (P : Option Addr) (bl c : Nat) (w : World)
    (hk : ∀ g1 g2 g3 g6 g7 g8 g10, lookK (frmMap g1 g2 g3 g6 g7 g8 g10) k = none) :
    Calls Tryd.prog 13 #[.agg #[.int .i64 k, .int .u32 n, .string tg, .int .i64 st, .string tx, .int .i64 it, .int .u8 fl, .int .u32 ui, .int .u32 sz, .slice P bl c]] w fun e w' => e = .returned (.bool false) ∧ Below w.heap.size w w' := by
  have HM := Lib.hid forms_any
  have HK := Lib.hid hk
  clear hk
  go_enter Tryd.func13, Tryd.ntmps13
  go_wp2_with fail
  have HW0 := Lib.hid (w0_facts w #[.int .i64 k, .int .u32 n, .string tg, .int .i64 st, .string tx, .int .i64 it, .int .u8 fl, .int .u32 ui, .int .u32 sz, .slice P bl c])
  have hlt0 := HW0.out.2.2
  generalize w.alloc (.cells #[.int .i64 k, .int .u32 n, .string tg, .int .i64 st, .string tx, .int .i64 it, .int .u8 fl, .int .u32 ui, .int .u32 sz, .slice P bl c] 26) = w0 at *
  refine wp_region_noPanic ?_
  refine wp_region_held_drew (S := (fun W => W.cell? ⟨w.heap.size, 0, none⟩ = some (.int .i64 k))) (by kernel_rfl) ?_ (fun hHeldA => ?_)
  · first | (dsimp only; ((refine blk_c0 (t := 26) (cs := #[.int .i64 k, .int .u32 n, .string tg, .int .i64 st, .string tx, .int .i64 it, .int .u8 fl, .int .u32 ui, .int .u32 sz, .slice P bl c]) ?_; (repeat (first | with_reducible refine Blk.drew ?_ | with_reducible refine Blk.past ?_ _ | with_reducible refine Blk.far3 ?_ (by omega) _)); first | with_reducible exact hkb | with_reducible exact HW0.out.2.1))) | ((refine blk_c0 (t := 26) (cs := #[.int .i64 k, .int .u32 n, .string tg, .int .i64 st, .string tx, .int .i64 it, .int .u8 fl, .int .u32 ui, .int .u32 sz, .slice P bl c]) ?_; (repeat (first | with_reducible refine Blk.drew ?_ | with_reducible refine Blk.past ?_ _ | with_reducible refine Blk.far3 ?_ (by omega) _)); first | with_reducible exact hkb | with_reducible exact HW0.out.2.1))
  refine wpAnyH_take (i := 1) (v := ?_) rfl (by kernel_rfl) (by kernel_rfl) (by kernel_rfl) (fun _ _ _ h => h) (Or.inl ⟨by rfl, ?_⟩) (by assumption) ?_
  rotate_left
  · intro w hSw
    try dsimp only at hSw
    go_simp
    try with_reducible rfl
  try simp only [List.getElem_toArray, List.getElem_cons_zero, List.getElem_cons_succ, Act.put, List.setIfInBounds_toArray, List.set_cons_zero, List.set_cons_succ]
  refine wpAnyH_take (i := 2) (v := ?_) rfl (by kernel_rfl) (by kernel_rfl) (by kernel_rfl) (fun _ _ _ h => h) (Or.inl ⟨by rfl, ?_⟩) (by assumption) ?_
  rotate_left
  · intro w hSw
    try dsimp only at hSw
    go_simp
    try with_reducible rfl
  try simp only [List.getElem_toArray, List.getElem_cons_zero, List.getElem_cons_succ, Act.put, List.setIfInBounds_toArray, List.set_cons_zero, List.set_cons_succ]
  refine wpAnyH_ready (rs := [0, 7]) (by kernel_rfl) (by simp) ?_
  refine AllReadyH.cons rfl (fun K hK => ?w1x0) (AllReadyH.cons rfl (fun K hK => ?w1x7) (AllReadyH.nil))
  case' w1x0 =>
    try simp only [List.getElem_toArray, List.getElem_cons_zero, List.getElem_cons_succ]
    go_simp
    ((go_at_call 26; refine (HM.out _).mono ?_; rintro e w1 ⟨b, g1, g2, g3, g6, g7, g8, g10, rfl, hs⟩; have hl := hs.1.look (kMapFm w) Tryd.underlying52 (zeroFm w1) k; have hl2 := (hs.1.past (.cells #[.nilFunc, .nilFunc] 51)).look (kMapFm w) Tryd.underlying52 (zeroFm _) k; rw [HK.out] at hl hl2; simp only [Option.getD_none, Option.isSome_none] at hl hl2; have hkb : Blk w1 w.heap.size 26 #[.int .i64 k, .int .u32 n, .string tg, .int .i64 st, .string tx, .int .i64 it, .int .u8 fl, .int .u32 ui, .int .u32 sz, .slice P bl c] := by {first | exact Blk.below HW0.out.2.1.drewd hs.2.1 HW0.out.2.1.lt | exact Blk.below (HW0.out.2.1.past _).drewd hs.2.1 (HW0.out.2.1.past _).lt}; have hlt : w.heap.size < w1.heap.size := hkb.lt; have HBN : Hid (Below w.heap.size w w1) := by {first | exact Lib.hid (below_call HW0.out.1.drew hs.2.1) | exact Lib.hid (below_call (below_new HW0.out.1 _).drew hs.2.1)}; try (have hfb : Blk w1 w0.heap.size 51 #[.nilFunc, .nilFunc] := Blk.below (Blk.made w0 _ _).drewd hs.2.1 (Blk.made w0 _ _).lt; have x0 : w1.cell? ⟨w0.heap.size, 0, none⟩ = some .nilFunc := hfb.cell 0; have x1 : w1.cell? ⟨w0.heap.size, 1, none⟩ = some .nilFunc := hfb.cell 1; have y0 := hfb.frz 0; have y1 := hfb.frz 1); clear hs))
    first | (with_reducible refine hK.out _ _ ?_ (fun hHeldB => ?_)) | (go_wp2_with fail; refine hK.out _ _ ?_ (fun hHeldB => ?_))
    · first | (dsimp only; ((refine blk_c0 (t := 26) (cs := #[.int .i64 k, .int .u32 n, .string tg, .int .i64 st, .string tx, .int .i64 it, .int .u8 fl, .int .u32 ui, .int .u32 sz, .slice P bl c]) ?_; (repeat (first | with_reducible refine Blk.drew ?_ | with_reducible refine Blk.past ?_ _ | with_reducible refine Blk.far3 ?_ (by omega) _)); first | with_reducible exact hkb | with_reducible exact HW0.out.2.1))) | ((refine blk_c0 (t := 26) (cs := #[.int .i64 k, .int .u32 n, .string tg, .int .i64 st, .string tx, .int .i64 it, .int .u8 fl, .int .u32 ui, .int .u32 sz, .slice P bl c]) ?_; (repeat (first | with_reducible refine Blk.drew ?_ | with_reducible refine Blk.past ?_ _ | with_reducible refine Blk.far3 ?_ (by omega) _)); first | with_reducible exact hkb | with_reducible exact HW0.out.2.1))
    clear hK K hHeldA
    try simp only [Act.put, List.setIfInBounds_toArray, List.set_cons_zero, List.set_cons_succ]
    refine wpAnyH_ready (rs := [3, 7]) (by kernel_rfl) (by simp) ?_
    refine AllReadyH.cons rfl (fun K hK => ?w2x3) (AllReadyH.cons rfl (fun K hK => ?w2x7) (AllReadyH.nil))
    case' w2x3 =>
      try simp only [List.getElem_toArray, List.getElem_cons_zero, List.getElem_cons_succ]
      go_simp
      first | (with_reducible refine hK.out _ _ ?_ (fun hHeldA => ?_)) | (go_wp2_with fail; refine hK.out _ _ ?_ (fun hHeldA => ?_))
      · first | (dsimp only; ((refine blk_c0 (t := 26) (cs := #[.int .i64 k, .int .u32 n, .string tg, .int .i64 st, .string tx, .int .i64 it, .int .u8 fl, .int .u32 ui, .int .u32 sz, .slice P bl c]) ?_; (repeat (first | with_reducible refine Blk.drew ?_ | with_reducible refine Blk.past ?_ _ | with_reducible refine Blk.far3 ?_ (by omega) _)); first | with_reducible exact hkb | with_reducible exact HW0.out.2.1))) | ((refine blk_c0 (t := 26) (cs := #[.int .i64 k, .int .u32 n, .string tg, .int .i64 st, .string tx, .int .i64 it, .int .u8 fl, .int .u32 ui, .int .u32 sz, .slice P bl c]) ?_; (repeat (first | with_reducible refine Blk.drew ?_ | with_reducible refine Blk.past ?_ _ | with_reducible refine Blk.far3 ?_ (by omega) _)); first | with_reducible exact hkb | with_reducible exact HW0.out.2.1))
      clear hK K hHeldB
      try simp only [Act.put, List.setIfInBounds_toArray, List.set_cons_zero, List.set_cons_succ]
      refine wpAnyH_take (i := 4) (v := ?_) rfl (by kernel_rfl) (by kernel_rfl) (by kernel_rfl) (fun _ _ _ h => h) (Or.inl ⟨by rfl, ?_⟩) (by assumption) ?_
      rotate_left
      · intro w hSw
        try dsimp only at hSw
        go_simp
        try with_reducible rfl
      try simp only [List.getElem_toArray, List.getElem_cons_zero, List.getElem_cons_succ, Act.put, List.setIfInBounds_toArray, List.set_cons_zero, List.set_cons_succ]
      refine wpAnyH_take (i := 5) (v := ?_) rfl (by kernel_rfl) (by kernel_rfl) (by kernel_rfl) (fun _ _ _ h => h) (Or.inl ⟨by rfl, ?_⟩) (by assumption) ?_
      rotate_left
      · intro w hSw
        try dsimp only at hSw
        go_simp
        try with_reducible rfl
      try simp only [List.getElem_toArray, List.getElem_cons_zero, List.getElem_cons_succ, Act.put, List.setIfInBounds_toArray, List.set_cons_zero, List.set_cons_succ]
      refine wpAnyH_take (i := 6) (v := ?_) rfl (by kernel_rfl) (by kernel_rfl) (by kernel_rfl) (fun _ _ _ h => h) (Or.inl ⟨by rfl, ?_⟩) (by assumption) ?_
      rotate_left
      · intro w hSw
        try dsimp only at hSw
        go_simp
        try with_reducible rfl
      try simp only [List.getElem_toArray, List.getElem_cons_zero, List.getElem_cons_succ, Act.put, List.setIfInBounds_toArray, List.set_cons_zero, List.set_cons_succ]
      refine wpAnyH_ready (rs := [7]) (by kernel_rfl) (by simp) ?_
      refine AllReadyH.cons rfl (fun K hK => ?_) AllReadyH.nil
      try simp only [List.getElem_toArray, List.getElem_cons_zero, List.getElem_cons_succ]
      go_simp
      first | (with_reducible refine hK.out _ _ ?_ (fun hHeldB => ?_)) | (go_wp2_with fail; refine hK.out _ _ ?_ (fun hHeldB => ?_))
      · first | (dsimp only; ((refine blk_c0 (t := 26) (cs := #[.int .i64 k, .int .u32 n, .string tg, .int .i64 st, .string tx, .int .i64 it, .int .u8 fl, .int .u32 ui, .int .u32 sz, .slice P bl c]) ?_; (repeat (first | with_reducible refine Blk.drew ?_ | with_reducible refine Blk.past ?_ _ | with_reducible refine Blk.far3 ?_ (by omega) _)); first | with_reducible exact hkb | with_reducible exact HW0.out.2.1))) | ((refine blk_c0 (t := 26) (cs := #[.int .i64 k, .int .u32 n, .string tg, .int .i64 st, .string tx, .int .i64 it, .int .u8 fl, .int .u32 ui, .int .u32 sz, .slice P bl c]) ?_; (repeat (first | with_reducible refine Blk.drew ?_ | with_reducible refine Blk.past ?_ _ | with_reducible refine Blk.far3 ?_ (by omega) _)); first | with_reducible exact hkb | with_reducible exact HW0.out.2.1))
      clear hK K hHeldA
      try simp only [Act.put, List.setIfInBounds_toArray, List.set_cons_zero, List.set_cons_succ]
      refine wpAnyH_ready (rs := [8]) (by kernel_rfl) (by simp) ?_
      refine AllReadyH.cons rfl (fun K hK => ?_) AllReadyH.nil
      try simp only [List.getElem_toArray, List.getElem_cons_zero, List.getElem_cons_succ]
      go_simp
      first | (with_reducible refine hK.out _ _ ?_ (fun hHeldA => ?_)) | (go_wp2_with fail; refine hK.out _ _ ?_ (fun hHeldA => ?_))
      · first | (dsimp only; ((refine blk_c0 (t := 26) (cs := #[.int .i64 k, .int .u32 n, .string tg, .int .i64 st, .string tx, .int .i64 it, .int .u8 fl, .int .u32 ui, .int .u32 sz, .slice P bl c]) ?_; (repeat (first | with_reducible refine Blk.drew ?_ | with_reducible refine Blk.past ?_ _ | with_reducible refine Blk.far3 ?_ (by omega) _)); first | with_reducible exact hkb | with_reducible exact HW0.out.2.1))) | ((refine blk_c0 (t := 26) (cs := #[.int .i64 k, .int .u32 n, .string tg, .int .i64 st, .string tx, .int .i64 it, .int .u8 fl, .int .u32 ui, .int .u32 sz, .slice P bl c]) ?_; (repeat (first | with_reducible refine Blk.drew ?_ | with_reducible refine Blk.past ?_ _ | with_reducible refine Blk.far3 ?_ (by omega) _)); first | with_reducible exact hkb | with_reducible exact HW0.out.2.1))
      clear hK K hHeldB
      try simp only [Act.put, List.setIfInBounds_toArray, List.set_cons_zero, List.set_cons_succ]
      refine wpAnyH_take (i := 9) (v := ?_) rfl (by kernel_rfl) (by kernel_rfl) (by kernel_rfl) (fun _ _ _ h => h) (Or.inl ⟨by rfl, ?_⟩) (by assumption) ?_
      rotate_left
      · intro w hSw
        try dsimp only at hSw
        go_simp
        try with_reducible rfl
      try simp only [List.getElem_toArray, List.getElem_cons_zero, List.getElem_cons_succ, Act.put, List.setIfInBounds_toArray, List.set_cons_zero, List.set_cons_succ]
      refine wpAnyH_done (by kernel_rfl) ?_ _
      refine NoPanic.normal ?_
    case' w2x7 =>
      try simp only [List.getElem_toArray, List.getElem_cons_zero, List.getElem_cons_succ]
      go_simp
      first | (with_reducible refine hK.out _ _ ?_ (fun hHeldA => ?_)) | (go_wp2_with fail; refine hK.out _ _ ?_ (fun hHeldA => ?_))
      · first | (dsimp only; ((refine blk_c0 (t := 26) (cs := #[.int .i64 k, .int .u32 n, .string tg, .int .i64 st, .string tx, .int .i64 it, .int .u8 fl, .int .u32 ui, .int .u32 sz, .slice P bl c]) ?_; (repeat (first | with_reducible refine Blk.drew ?_ | with_reducible refine Blk.past ?_ _ | with_reducible refine Blk.far3 ?_ (by omega) _)); first | with_reducible exact hkb | with_reducible exact HW0.out.2.1))) | ((refine blk_c0 (t := 26) (cs := #[.int .i64 k, .int .u32 n, .string tg, .int .i64 st, .string tx, .int .i64 it, .int .u8 fl, .int .u32 ui, .int .u32 sz, .slice P bl c]) ?_; (repeat (first | with_reducible refine Blk.drew ?_ | with_reducible refine Blk.past ?_ _ | with_reducible refine Blk.far3 ?_ (by omega) _)); first | with_reducible exact hkb | with_reducible exact HW0.out.2.1))
      clear hK K hHeldB
      try simp only [Act.put, List.setIfInBounds_toArray, List.set_cons_zero, List.set_cons_succ]
      refine wpAnyH_ready (rs := [3]) (by kernel_rfl) (by simp) ?_
      refine AllReadyH.cons rfl (fun K hK => ?_) AllReadyH.nil
      try simp only [List.getElem_toArray, List.getElem_cons_zero, List.getElem_cons_succ]
      go_simp
      first | (with_reducible refine hK.out _ _ ?_ (fun hHeldB => ?_)) | (go_wp2_with fail; refine hK.out _ _ ?_ (fun hHeldB => ?_))
      · first | (dsimp only; ((refine blk_c0 (t := 26) (cs := #[.int .i64 k, .int .u32 n, .string tg, .int .i64 st, .string tx, .int .i64 it, .int .u8 fl, .int .u32 ui, .int .u32 sz, .slice P bl c]) ?_; (repeat (first | with_reducible refine Blk.drew ?_ | with_reducible refine Blk.past ?_ _ | with_reducible refine Blk.far3 ?_ (by omega) _)); first | with_reducible exact hkb | with_reducible exact HW0.out.2.1))) | ((refine blk_c0 (t := 26) (cs := #[.int .i64 k, .int .u32 n, .string tg, .int .i64 st, .string tx, .int .i64 it, .int .u8 fl, .int .u32 ui, .int .u32 sz, .slice P bl c]) ?_; (repeat (first | with_reducible refine Blk.drew ?_ | with_reducible refine Blk.past ?_ _ | with_reducible refine Blk.far3 ?_ (by omega) _)); first | with_reducible exact hkb | with_reducible exact HW0.out.2.1))
      clear hK K hHeldA
      try simp only [Act.put, List.setIfInBounds_toArray, List.set_cons_zero, List.set_cons_succ]
      refine wpAnyH_take (i := 4) (v := ?_) rfl (by kernel_rfl) (by kernel_rfl) (by kernel_rfl) (fun _ _ _ h => h) (Or.inl ⟨by rfl, ?_⟩) (by assumption) ?_
      rotate_left
      · intro w hSw
        try dsimp only at hSw
        go_simp
        try with_reducible rfl
      try simp only [List.getElem_toArray, List.getElem_cons_zero, List.getElem_cons_succ, Act.put, List.setIfInBounds_toArray, List.set_cons_zero, List.set_cons_succ]
      refine wpAnyH_take (i := 5) (v := ?_) rfl (by kernel_rfl) (by kernel_rfl) (by kernel_rfl) (fun _ _ _ h => h) (Or.inl ⟨by rfl, ?_⟩) (by assumption) ?_
      rotate_left
      · intro w hSw
        try dsimp only at hSw
        go_simp
        try with_reducible rfl
      try simp only [List.getElem_toArray, List.getElem_cons_zero, List.getElem_cons_succ, Act.put, List.setIfInBounds_toArray, List.set_cons_zero, List.set_cons_succ]
      refine wpAnyH_take (i := 6) (v := ?_) rfl (by kernel_rfl) (by kernel_rfl) (by kernel_rfl) (fun _ _ _ h => h) (Or.inl ⟨by rfl, ?_⟩) (by assumption) ?_
      rotate_left
      · intro w hSw
        try dsimp only at hSw
        go_simp
        try with_reducible rfl
      try simp only [List.getElem_toArray, List.getElem_cons_zero, List.getElem_cons_succ, Act.put, List.setIfInBounds_toArray, List.set_cons_zero, List.set_cons_succ]
      refine wpAnyH_ready (rs := [8]) (by kernel_rfl) (by simp) ?_
      refine AllReadyH.cons rfl (fun K hK => ?_) AllReadyH.nil
      try simp only [List.getElem_toArray, List.getElem_cons_zero, List.getElem_cons_succ]
      go_simp
      first | (with_reducible refine hK.out _ _ ?_ (fun hHeldA => ?_)) | (go_wp2_with fail; refine hK.out _ _ ?_ (fun hHeldA => ?_))
      · first | (dsimp only; ((refine blk_c0 (t := 26) (cs := #[.int .i64 k, .int .u32 n, .string tg, .int .i64 st, .string tx, .int .i64 it, .int .u8 fl, .int .u32 ui, .int .u32 sz, .slice P bl c]) ?_; (repeat (first | with_reducible refine Blk.drew ?_ | with_reducible refine Blk.past ?_ _ | with_reducible refine Blk.far3 ?_ (by omega) _)); first | with_reducible exact hkb | with_reducible exact HW0.out.2.1))) | ((refine blk_c0 (t := 26) (cs := #[.int .i64 k, .int .u32 n, .string tg, .int .i64 st, .string tx, .int .i64 it, .int .u8 fl, .int .u32 ui, .int .u32 sz, .slice P bl c]) ?_; (repeat (first | with_reducible refine Blk.drew ?_ | with_reducible refine Blk.past ?_ _ | with_reducible refine Blk.far3 ?_ (by omega) _)); first | with_reducible exact hkb | with_reducible exact HW0.out.2.1))
      clear hK K hHeldB
      try simp only [Act.put, List.setIfInBounds_toArray, List.set_cons_zero, List.set_cons_succ]
      refine wpAnyH_take (i := 9) (v := ?_) rfl (by kernel_rfl) (by kernel_rfl) (by kernel_rfl) (fun _ _ _ h => h) (Or.inl ⟨by rfl, ?_⟩) (by assumption) ?_
      rotate_left
      · intro w hSw
        try dsimp only at hSw
        go_simp
        try with_reducible rfl
      try simp only [List.getElem_toArray, List.getElem_cons_zero, List.getElem_cons_succ, Act.put, List.setIfInBounds_toArray, List.set_cons_zero, List.set_cons_succ]
      refine wpAnyH_done (by kernel_rfl) ?_ _
      refine NoPanic.normal ?_
  case' w1x7 =>
    try simp only [List.getElem_toArray, List.getElem_cons_zero, List.getElem_cons_succ]
    go_simp
    first | (with_reducible refine hK.out _ _ ?_ (fun hHeldB => ?_)) | (go_wp2_with fail; refine hK.out _ _ ?_ (fun hHeldB => ?_))
    · first | (dsimp only; ((refine blk_c0 (t := 26) (cs := #[.int .i64 k, .int .u32 n, .string tg, .int .i64 st, .string tx, .int .i64 it, .int .u8 fl, .int .u32 ui, .int .u32 sz, .slice P bl c]) ?_; (repeat (first | with_reducible refine Blk.drew ?_ | with_reducible refine Blk.past ?_ _ | with_reducible refine Blk.far3 ?_ (by omega) _)); first | with_reducible exact hkb | with_reducible exact HW0.out.2.1))) | ((refine blk_c0 (t := 26) (cs := #[.int .i64 k, .int .u32 n, .string tg, .int .i64 st, .string tx, .int .i64 it, .int .u8 fl, .int .u32 ui, .int .u32 sz, .slice P bl c]) ?_; (repeat (first | with_reducible refine Blk.drew ?_ | with_reducible refine Blk.past ?_ _ | with_reducible refine Blk.far3 ?_ (by omega) _)); first | with_reducible exact hkb | with_reducible exact HW0.out.2.1))
    clear hK K hHeldA
    try simp only [Act.put, List.setIfInBounds_toArray, List.set_cons_zero, List.set_cons_succ]
    refine wpAnyH_ready (rs := [0]) (by kernel_rfl) (by simp) ?_
    refine AllReadyH.cons rfl (fun K hK => ?_) AllReadyH.nil
    try simp only [List.getElem_toArray, List.getElem_cons_zero, List.getElem_cons_succ]
    go_simp
    ((go_at_call 26; refine (HM.out _).mono ?_; rintro e w1 ⟨b, g1, g2, g3, g6, g7, g8, g10, rfl, hs⟩; have hl := hs.1.look (kMapFm w) Tryd.underlying52 (zeroFm w1) k; have hl2 := (hs.1.past (.cells #[.nilFunc, .nilFunc] 51)).look (kMapFm w) Tryd.underlying52 (zeroFm _) k; rw [HK.out] at hl hl2; simp only [Option.getD_none, Option.isSome_none] at hl hl2; have hkb : Blk w1 w.heap.size 26 #[.int .i64 k, .int .u32 n, .string tg, .int .i64 st, .string tx, .int .i64 it, .int .u8 fl, .int .u32 ui, .int .u32 sz, .slice P bl c] := by {first | exact Blk.below HW0.out.2.1.drewd hs.2.1 HW0.out.2.1.lt | exact Blk.below (HW0.out.2.1.past _).drewd hs.2.1 (HW0.out.2.1.past _).lt}; have hlt : w.heap.size < w1.heap.size := hkb.lt; have HBN : Hid (Below w.heap.size w w1) := by {first | exact Lib.hid (below_call HW0.out.1.drew hs.2.1) | exact Lib.hid (below_call (below_new HW0.out.1 _).drew hs.2.1)}; try (have hfb : Blk w1 w0.heap.size 51 #[.nilFunc, .nilFunc] := Blk.below (Blk.made w0 _ _).drewd hs.2.1 (Blk.made w0 _ _).lt; have x0 : w1.cell? ⟨w0.heap.size, 0, none⟩ = some .nilFunc := hfb.cell 0; have x1 : w1.cell? ⟨w0.heap.size, 1, none⟩ = some .nilFunc := hfb.cell 1; have y0 := hfb.frz 0; have y1 := hfb.frz 1); clear hs))
    first | (with_reducible refine hK.out _ _ ?_ (fun hHeldA => ?_)) | (go_wp2_with fail; refine hK.out _ _ ?_ (fun hHeldA => ?_))
    · first | (dsimp only; ((refine blk_c0 (t := 26) (cs := #[.int .i64 k, .int .u32 n, .string tg, .int .i64 st, .string tx, .int .i64 it, .int .u8 fl, .int .u32 ui, .int .u32 sz, .slice P bl c]) ?_; (repeat (first | with_reducible refine Blk.drew ?_ | with_reducible refine Blk.past ?_ _ | with_reducible refine Blk.far3 ?_ (by omega) _)); first | with_reducible exact hkb | with_reducible exact HW0.out.2.1))) | ((refine blk_c0 (t := 26) (cs := #[.int .i64 k, .int .u32 n, .string tg, .int .i64 st, .string tx, .int .i64 it, .int .u8 fl, .int .u32 ui, .int .u32 sz, .slice P bl c]) ?_; (repeat (first | with_reducible refine Blk.drew ?_ | with_reducible refine Blk.past ?_ _ | with_reducible refine Blk.far3 ?_ (by omega) _)); first | with_reducible exact hkb | with_reducible exact HW0.out.2.1))
    clear hK K hHeldB
    try simp only [Act.put, List.setIfInBounds_toArray, List.set_cons_zero, List.set_cons_succ]
    refine wpAnyH_ready (rs := [3]) (by kernel_rfl) (by simp) ?_
    refine AllReadyH.cons rfl (fun K hK => ?_) AllReadyH.nil
    try simp only [List.getElem_toArray, List.getElem_cons_zero, List.getElem_cons_succ]
    go_simp
    first | (with_reducible refine hK.out _ _ ?_ (fun hHeldB => ?_)) | (go_wp2_with fail; refine hK.out _ _ ?_ (fun hHeldB => ?_))
    · first | (dsimp only; ((refine blk_c0 (t := 26) (cs := #[.int .i64 k, .int .u32 n, .string tg, .int .i64 st, .string tx, .int .i64 it, .int .u8 fl, .int .u32 ui, .int .u32 sz, .slice P bl c]) ?_; (repeat (first | with_reducible refine Blk.drew ?_ | with_reducible refine Blk.past ?_ _ | with_reducible refine Blk.far3 ?_ (by omega) _)); first | with_reducible exact hkb | with_reducible exact HW0.out.2.1))) | ((refine blk_c0 (t := 26) (cs := #[.int .i64 k, .int .u32 n, .string tg, .int .i64 st, .string tx, .int .i64 it, .int .u8 fl, .int .u32 ui, .int .u32 sz, .slice P bl c]) ?_; (repeat (first | with_reducible refine Blk.drew ?_ | with_reducible refine Blk.past ?_ _ | with_reducible refine Blk.far3 ?_ (by omega) _)); first | with_reducible exact hkb | with_reducible exact HW0.out.2.1))
    clear hK K hHeldA
    try simp only [Act.put, List.setIfInBounds_toArray, List.set_cons_zero, List.set_cons_succ]
    refine wpAnyH_take (i := 4) (v := ?_) rfl (by kernel_rfl) (by kernel_rfl) (by kernel_rfl) (fun _ _ _ h => h) (Or.inl ⟨by rfl, ?_⟩) (by assumption) ?_
    rotate_left
    · intro w hSw
      try dsimp only at hSw
      go_simp
      try with_reducible rfl
    try simp only [List.getElem_toArray, List.getElem_cons_zero, List.getElem_cons_succ, Act.put, List.setIfInBounds_toArray, List.set_cons_zero, List.set_cons_succ]
    refine wpAnyH_take (i := 5) (v := ?_) rfl (by kernel_rfl) (by kernel_rfl) (by kernel_rfl) (fun _ _ _ h => h) (Or.inl ⟨by rfl, ?_⟩) (by assumption) ?_
    rotate_left
    · intro w hSw
      try dsimp only at hSw
      go_simp
      try with_reducible rfl
    try simp only [List.getElem_toArray, List.getElem_cons_zero, List.getElem_cons_succ, Act.put, List.setIfInBounds_toArray, List.set_cons_zero, List.set_cons_succ]
    refine wpAnyH_take (i := 6) (v := ?_) rfl (by kernel_rfl) (by kernel_rfl) (by kernel_rfl) (fun _ _ _ h => h) (Or.inl ⟨by rfl, ?_⟩) (by assumption) ?_
    rotate_left
    · intro w hSw
      try dsimp only at hSw
      go_simp
      try with_reducible rfl
    try simp only [List.getElem_toArray, List.getElem_cons_zero, List.getElem_cons_succ, Act.put, List.setIfInBounds_toArray, List.set_cons_zero, List.set_cons_succ]
    refine wpAnyH_ready (rs := [8]) (by kernel_rfl) (by simp) ?_
    refine AllReadyH.cons rfl (fun K hK => ?_) AllReadyH.nil
    try simp only [List.getElem_toArray, List.getElem_cons_zero, List.getElem_cons_succ]
    go_simp
    first | (with_reducible refine hK.out _ _ ?_ (fun hHeldA => ?_)) | (go_wp2_with fail; refine hK.out _ _ ?_ (fun hHeldA => ?_))
    · first | (dsimp only; ((refine blk_c0 (t := 26) (cs := #[.int .i64 k, .int .u32 n, .string tg, .int .i64 st, .string tx, .int .i64 it, .int .u8 fl, .int .u32 ui, .int .u32 sz, .slice P bl c]) ?_; (repeat (first | with_reducible refine Blk.drew ?_ | with_reducible refine Blk.past ?_ _ | with_reducible refine Blk.far3 ?_ (by omega) _)); first | with_reducible exact hkb | with_reducible exact HW0.out.2.1))) | ((refine blk_c0 (t := 26) (cs := #[.int .i64 k, .int .u32 n, .string tg, .int .i64 st, .string tx, .int .i64 it, .int .u8 fl, .int .u32 ui, .int .u32 sz, .slice P bl c]) ?_; (repeat (first | with_reducible refine Blk.drew ?_ | with_reducible refine Blk.past ?_ _ | with_reducible refine Blk.far3 ?_ (by omega) _)); first | with_reducible exact hkb | with_reducible exact HW0.out.2.1))
    clear hK K hHeldB
    try simp only [Act.put, List.setIfInBounds_toArray, List.set_cons_zero, List.set_cons_succ]
    refine wpAnyH_take (i := 9) (v := ?_) rfl (by kernel_rfl) (by kernel_rfl) (by kernel_rfl) (fun _ _ _ h => h) (Or.inl ⟨by rfl, ?_⟩) (by assumption) ?_
    rotate_left
    · intro w hSw
      try dsimp only at hSw
      go_simp
      try with_reducible rfl
    try simp only [List.getElem_toArray, List.getElem_cons_zero, List.getElem_cons_succ, Act.put, List.setIfInBounds_toArray, List.set_cons_zero, List.set_cons_succ]
    refine wpAnyH_done (by kernel_rfl) ?_ _
    refine NoPanic.normal ?_
  all_goals
    go_wp2_with fail
    go_ret
    refine ⟨rfl, ?_⟩
    (repeat (first | with_reducible refine Below.drew ?_ | with_reducible refine Below.setCell ?_ (by dsimp only; omega) _ | with_reducible refine Below.alloc ?_ (by omega) _))
    exact HBN.out

/-- What stands behind the look at the map of forms. -/
def VdCut (w : World) (rc : Array Value) (f2 : FuncId) (v3 v4 : Value) (wx : World) : Prop :=
  ∃ g f1 c, v3 = .pointer (some ⟨g, 0, none⟩) ∧ v4 = .bool true ∧ Blk wx g 51 #[.func (.func f1) #[] c, .func (.func f2) #[] #[]] ∧ Blk wx w.heap.size 26 rc ∧ Below w.heap.size w wx

set_option maxRecDepth 100000 in
set_option maxHeartbeats 6400000 in
theorem valid_walk (f2 : FuncId) (k n st it fl ui sz : Int) (tg tx : ByteArray) (P : Option Addr) (l : List UInt8) (c : Nat) (w : World)
    (n' st' it' fl' ui' sz' : Int) (tg' tx' : ByteArray) (P' : Option Addr) (l' : List UInt8) (c' : Nat) (right : Bool)
    (hcf : ∀ args W, (callFunc f2 args).run Tryd.prog W = .ok (.enter f2 args) W)
    (hk : ∀ g1 g2 g3 g6 g7 g8 g10, ∃ f1 cc, lookK (frmMap g1 g2 g3 g6 g7 g8 g10) k = some (fmV f1 f2 cc))
    (hf : ∀ W, Below w.heap.size w W → Calls Tryd.prog f2 #[.agg #[.int .i64 k, .int .u32 n, .string tg, .int .i64 st, .string tx, .int .i64 it, .int .u8 fl, .int .u32 ui, .int .u32 sz, .slice P l.length c]] W fun e w' => e = .returned (.tuple #[.agg #[.int .i64 0, .int .u32 n', .string tg', .int .i64 st', .string tx', .int .i64 it', .int .u8 fl', .int .u32 ui', .int .u32 sz', .slice P' l'.length c'], .bool right]) ∧ Below W.heap.size W w')
    (hb : Bys w w.heap.size P l) (hb' : Bys w w.heap.size P' l') (hl : l.length ≤ 1048576) (hl' : l'.length ≤ 1048576) :
    Calls Tryd.prog 13 #[.agg #[.int .i64 k, .int .u32 n, .string tg, .int .i64 st, .string tx, .int .i64 it, .int .u8 fl, .int .u32 ui, .int .u32 sz, .slice P l.length c]] w fun e w' => e = .returned (.bool (right && sameF k n' st' it' fl' ui' sz' tg' tx' l' k n st it fl ui sz tg tx l)) ∧ Below w.heap.size w w' := by
  have HM := Lib.hid forms_any
  have HK := Lib.hid hk
  have HF := Lib.hid hf
  have HSM := Lib.hid (fun W (hW : Below w.heap.size w W) => same_any k n' st' it' fl' ui' sz' tg' tx' P' c' l' k n st it fl ui sz tg tx P c l W ((hb'.below hW).more hW.size) ((hb.below hW).more hW.size) hl' hl)
  generalize sameF k n' st' it' fl' ui' sz' tg' tx' l' k n st it fl ui sz tg tx l = sm at *
  generalize l.length = bl at *
  generalize l'.length = bl' at *
  clear hk hf hb hb' hl hl'
  go_enter Tryd.func13, Tryd.ntmps13
  go_upto_region 1 with fail
  have HW0 := Lib.hid (w0_facts w #[.int .i64 k, .int .u32 n, .string tg, .int .i64 st, .string tx, .int .i64 it, .int .u8 fl, .int .u32 ui, .int .u32 sz, .slice P bl c])
  have hlt0 := HW0.out.2.2
  generalize w.alloc (.cells #[.int .i64 k, .int .u32 n, .string tg, .int .i64 st, .string tx, .int .i64 it, .int .u8 fl, .int .u32 ui, .int .u32 sz, .slice P bl c] 26) = w0 at *
  go_cut [3, 4] (fun s3 s4 wx => VdCut w #[.int .i64 k, .int .u32 n, .string tg, .int .i64 st, .string tx, .int .i64 it, .int .u8 fl, .int .u32 ui, .int .u32 sz, .slice P bl c] f2 s3 s4 wx)
  case first =>
    refine wp_region_noPanic ?_
    refine wp_region_held_drew (S := (fun W => W.cell? ⟨w.heap.size, 0, none⟩ = some (.int .i64 k))) (by kernel_rfl) ?_ (fun hHeldA => ?_)
    · first | (dsimp only; ((refine blk_c0 (t := 26) (cs := #[.int .i64 k, .int .u32 n, .string tg, .int .i64 st, .string tx, .int .i64 it, .int .u8 fl, .int .u32 ui, .int .u32 sz, .slice P bl c]) ?_; (repeat (first | with_reducible refine Blk.drew ?_ | with_reducible refine Blk.past ?_ _ | with_reducible refine Blk.far3 ?_ (by omega) _)); first | with_reducible exact hkb | with_reducible exact HW0.out.2.1))) | ((refine blk_c0 (t := 26) (cs := #[.int .i64 k, .int .u32 n, .string tg, .int .i64 st, .string tx, .int .i64 it, .int .u8 fl, .int .u32 ui, .int .u32 sz, .slice P bl c]) ?_; (repeat (first | with_reducible refine Blk.drew ?_ | with_reducible refine Blk.past ?_ _ | with_reducible refine Blk.far3 ?_ (by omega) _)); first | with_reducible exact hkb | with_reducible exact HW0.out.2.1))
    refine wpAnyH_take (i := 1) (v := ?_) rfl (by kernel_rfl) (by kernel_rfl) (by kernel_rfl) (fun _ _ _ h => h) (Or.inl ⟨by rfl, ?_⟩) (by assumption) ?_
    rotate_left
    · intro w hSw
      try dsimp only at hSw
      go_simp
      try with_reducible rfl
    try simp only [List.getElem_toArray, List.getElem_cons_zero, List.getElem_cons_succ, Act.put, List.setIfInBounds_toArray, List.set_cons_zero, List.set_cons_succ]
    refine wpAnyH_take (i := 2) (v := ?_) rfl (by kernel_rfl) (by kernel_rfl) (by kernel_rfl) (fun _ _ _ h => h) (Or.inl ⟨by rfl, ?_⟩) (by assumption) ?_
    rotate_left
    · intro w hSw
      try dsimp only at hSw
      go_simp
      try with_reducible rfl
    try simp only [List.getElem_toArray, List.getElem_cons_zero, List.getElem_cons_succ, Act.put, List.setIfInBounds_toArray, List.set_cons_zero, List.set_cons_succ]
    refine wpAnyH_ready (rs := [0, 7]) (by kernel_rfl) (by simp) ?_
    refine AllReadyH.cons rfl (fun K hK => ?w1x0) (AllReadyH.cons rfl (fun K hK => ?w1x7) (AllReadyH.nil))
    case' w1x0 =>
      try simp only [List.getElem_toArray, List.getElem_cons_zero, List.getElem_cons_succ]
      go_simp
      ((go_at_call 26; refine (HM.out _).mono ?_; rintro e w1 ⟨b, g1, g2, g3, g6, g7, g8, g10, rfl, hs⟩; have hl := hs.1.look (kMapFm w) Tryd.underlying52 (zeroFm w1) k; have hl2 := (hs.1.past (.cells #[.nilFunc, .nilFunc] 51)).look (kMapFm w) Tryd.underlying52 (zeroFm _) k; obtain ⟨f1, cc, hkk⟩ := HK.out g1 g2 g3 g6 g7 g8 g10; rw [hkk] at hl hl2; clear hkk; simp only [Option.getD_some, Option.isSome_some, fmV] at hl hl2; have hkb : Blk w1 w.heap.size 26 #[.int .i64 k, .int .u32 n, .string tg, .int .i64 st, .string tx, .int .i64 it, .int .u8 fl, .int .u32 ui, .int .u32 sz, .slice P bl c] := by {first | exact Blk.below HW0.out.2.1.drewd hs.2.1 HW0.out.2.1.lt | exact Blk.below (HW0.out.2.1.past _).drewd hs.2.1 (HW0.out.2.1.past _).lt}; have hlt : w.heap.size < w1.heap.size := hkb.lt; have HBN : Hid (Below w.heap.size w w1) := by {first | exact Lib.hid (below_call HW0.out.1.drew hs.2.1) | exact Lib.hid (below_call (below_new HW0.out.1 _).drew hs.2.1)}; try (have hfb : Blk w1 w0.heap.size 51 #[.nilFunc, .nilFunc] := Blk.below (Blk.made w0 _ _).drewd hs.2.1 (Blk.made w0 _ _).lt; have x0 : w1.cell? ⟨w0.heap.size, 0, none⟩ = some .nilFunc := hfb.cell 0; have x1 : w1.cell? ⟨w0.heap.size, 1, none⟩ = some .nilFunc := hfb.cell 1; have y0 := hfb.frz 0; have y1 := hfb.frz 1); clear hs))
      first | (with_reducible refine hK.out _ _ ?_ (fun hHeldB => ?_)) | (go_wp2_with fail; refine hK.out _ _ ?_ (fun hHeldB => ?_))
      · first | (dsimp only; ((refine blk_c0 (t := 26) (cs := #[.int .i64 k, .int .u32 n, .string tg, .int .i64 st, .string tx, .int .i64 it, .int .u8 fl, .int .u32 ui, .int .u32 sz, .slice P bl c]) ?_; (repeat (first | with_reducible refine Blk.drew ?_ | with_reducible refine Blk.past ?_ _ | with_reducible refine Blk.far3 ?_ (by omega) _)); first | with_reducible exact hkb | with_reducible exact HW0.out.2.1))) | ((refine blk_c0 (t := 26) (cs := #[.int .i64 k, .int .u32 n, .string tg, .int .i64 st, .string tx, .int .i64 it, .int .u8 fl, .int .u32 ui, .int .u32 sz, .slice P bl c]) ?_; (repeat (first | with_reducible refine Blk.drew ?_ | with_reducible refine Blk.past ?_ _ | with_reducible refine Blk.far3 ?_ (by omega) _)); first | with_reducible exact hkb | with_reducible exact HW0.out.2.1))
      clear hK K hHeldA
      try simp only [Act.put, List.setIfInBounds_toArray, List.set_cons_zero, List.set_cons_succ]
      refine wpAnyH_ready (rs := [3, 7]) (by kernel_rfl) (by simp) ?_
      refine AllReadyH.cons rfl (fun K hK => ?w2x3) (AllReadyH.cons rfl (fun K hK => ?w2x7) (AllReadyH.nil))
      case' w2x3 =>
        try simp only [List.getElem_toArray, List.getElem_cons_zero, List.getElem_cons_succ]
        go_simp
        first | (with_reducible refine hK.out _ _ ?_ (fun hHeldA => ?_)) | (go_wp2_with fail; refine hK.out _ _ ?_ (fun hHeldA => ?_))
        · first | (dsimp only; ((refine blk_c0 (t := 26) (cs := #[.int .i64 k, .int .u32 n, .string tg, .int .i64 st, .string tx, .int .i64 it, .int .u8 fl, .int .u32 ui, .int .u32 sz, .slice P bl c]) ?_; (repeat (first | with_reducible refine Blk.drew ?_ | with_reducible refine Blk.past ?_ _ | with_reducible refine Blk.far3 ?_ (by omega) _)); first | with_reducible exact hkb | with_reducible exact HW0.out.2.1))) | ((refine blk_c0 (t := 26) (cs := #[.int .i64 k, .int .u32 n, .string tg, .int .i64 st, .string tx, .int .i64 it, .int .u8 fl, .int .u32 ui, .int .u32 sz, .slice P bl c]) ?_; (repeat (first | with_reducible refine Blk.drew ?_ | with_reducible refine Blk.past ?_ _ | with_reducible refine Blk.far3 ?_ (by omega) _)); first | with_reducible exact hkb | with_reducible exact HW0.out.2.1))
        clear hK K hHeldB
        try simp only [Act.put, List.setIfInBounds_toArray, List.set_cons_zero, List.set_cons_succ]
        refine wpAnyH_take (i := 4) (v := ?_) rfl (by kernel_rfl) (by kernel_rfl) (by kernel_rfl) (fun _ _ _ h => h) (Or.inl ⟨by rfl, ?_⟩) (by assumption) ?_
        rotate_left
        · intro w hSw
          try dsimp only at hSw
          go_simp
          try with_reducible rfl
        try simp only [List.getElem_toArray, List.getElem_cons_zero, List.getElem_cons_succ, Act.put, List.setIfInBounds_toArray, List.set_cons_zero, List.set_cons_succ]
        refine wpAnyH_take (i := 5) (v := ?_) rfl (by kernel_rfl) (by kernel_rfl) (by kernel_rfl) (fun _ _ _ h => h) (Or.inl ⟨by rfl, ?_⟩) (by assumption) ?_
        rotate_left
        · intro w hSw
          try dsimp only at hSw
          go_simp
          try with_reducible rfl
        try simp only [List.getElem_toArray, List.getElem_cons_zero, List.getElem_cons_succ, Act.put, List.setIfInBounds_toArray, List.set_cons_zero, List.set_cons_succ]
        refine wpAnyH_take (i := 6) (v := ?_) rfl (by kernel_rfl) (by kernel_rfl) (by kernel_rfl) (fun _ _ _ h => h) (Or.inl ⟨by rfl, ?_⟩) (by assumption) ?_
        rotate_left
        · intro w hSw
          try dsimp only at hSw
          go_simp
          try with_reducible rfl
        try simp only [List.getElem_toArray, List.getElem_cons_zero, List.getElem_cons_succ, Act.put, List.setIfInBounds_toArray, List.set_cons_zero, List.set_cons_succ]
        refine wpAnyH_ready (rs := [7]) (by kernel_rfl) (by simp) ?_
        refine AllReadyH.cons rfl (fun K hK => ?_) AllReadyH.nil
        try simp only [List.getElem_toArray, List.getElem_cons_zero, List.getElem_cons_succ]
        go_simp
        first | (with_reducible refine hK.out _ _ ?_ (fun hHeldB => ?_)) | (go_wp2_with fail; refine hK.out _ _ ?_ (fun hHeldB => ?_))
        · first | (dsimp only; ((refine blk_c0 (t := 26) (cs := #[.int .i64 k, .int .u32 n, .string tg, .int .i64 st, .string tx, .int .i64 it, .int .u8 fl, .int .u32 ui, .int .u32 sz, .slice P bl c]) ?_; (repeat (first | with_reducible refine Blk.drew ?_ | with_reducible refine Blk.past ?_ _ | with_reducible refine Blk.far3 ?_ (by omega) _)); first | with_reducible exact hkb | with_reducible exact HW0.out.2.1))) | ((refine blk_c0 (t := 26) (cs := #[.int .i64 k, .int .u32 n, .string tg, .int .i64 st, .string tx, .int .i64 it, .int .u8 fl, .int .u32 ui, .int .u32 sz, .slice P bl c]) ?_; (repeat (first | with_reducible refine Blk.drew ?_ | with_reducible refine Blk.past ?_ _ | with_reducible refine Blk.far3 ?_ (by omega) _)); first | with_reducible exact hkb | with_reducible exact HW0.out.2.1))
        clear hK K hHeldA
        try simp only [Act.put, List.setIfInBounds_toArray, List.set_cons_zero, List.set_cons_succ]
        refine wpAnyH_ready (rs := [8]) (by kernel_rfl) (by simp) ?_
        refine AllReadyH.cons rfl (fun K hK => ?_) AllReadyH.nil
        try simp only [List.getElem_toArray, List.getElem_cons_zero, List.getElem_cons_succ]
        go_simp
        first | (with_reducible refine hK.out _ _ ?_ (fun hHeldA => ?_)) | (go_wp2_with fail; refine hK.out _ _ ?_ (fun hHeldA => ?_))
        · first | (dsimp only; ((refine blk_c0 (t := 26) (cs := #[.int .i64 k, .int .u32 n, .string tg, .int .i64 st, .string tx, .int .i64 it, .int .u8 fl, .int .u32 ui, .int .u32 sz, .slice P bl c]) ?_; (repeat (first | with_reducible refine Blk.drew ?_ | with_reducible refine Blk.past ?_ _ | with_reducible refine Blk.far3 ?_ (by omega) _)); first | with_reducible exact hkb | with_reducible exact HW0.out.2.1))) | ((refine blk_c0 (t := 26) (cs := #[.int .i64 k, .int .u32 n, .string tg, .int .i64 st, .string tx, .int .i64 it, .int .u8 fl, .int .u32 ui, .int .u32 sz, .slice P bl c]) ?_; (repeat (first | with_reducible refine Blk.drew ?_ | with_reducible refine Blk.past ?_ _ | with_reducible refine Blk.far3 ?_ (by omega) _)); first | with_reducible exact hkb | with_reducible exact HW0.out.2.1))
        clear hK K hHeldB
        try simp only [Act.put, List.setIfInBounds_toArray, List.set_cons_zero, List.set_cons_succ]
        refine wpAnyH_take (i := 9) (v := ?_) rfl (by kernel_rfl) (by kernel_rfl) (by kernel_rfl) (fun _ _ _ h => h) (Or.inl ⟨by rfl, ?_⟩) (by assumption) ?_
        rotate_left
        · intro w hSw
          try dsimp only at hSw
          go_simp
          try with_reducible rfl
        try simp only [List.getElem_toArray, List.getElem_cons_zero, List.getElem_cons_succ, Act.put, List.setIfInBounds_toArray, List.set_cons_zero, List.set_cons_succ]
        refine wpAnyH_done (by kernel_rfl) ?_ _
        refine NoPanic.normal ?_
      case' w2x7 =>
        try simp only [List.getElem_toArray, List.getElem_cons_zero, List.getElem_cons_succ]
        go_simp
        first | (with_reducible refine hK.out _ _ ?_ (fun hHeldA => ?_)) | (go_wp2_with fail; refine hK.out _ _ ?_ (fun hHeldA => ?_))
        · first | (dsimp only; ((refine blk_c0 (t := 26) (cs := #[.int .i64 k, .int .u32 n, .string tg, .int .i64 st, .string tx, .int .i64 it, .int .u8 fl, .int .u32 ui, .int .u32 sz, .slice P bl c]) ?_; (repeat (first | with_reducible refine Blk.drew ?_ | with_reducible refine Blk.past ?_ _ | with_reducible refine Blk.far3 ?_ (by omega) _)); first | with_reducible exact hkb | with_reducible exact HW0.out.2.1))) | ((refine blk_c0 (t := 26) (cs := #[.int .i64 k, .int .u32 n, .string tg, .int .i64 st, .string tx, .int .i64 it, .int .u8 fl, .int .u32 ui, .int .u32 sz, .slice P bl c]) ?_; (repeat (first | with_reducible refine Blk.drew ?_ | with_reducible refine Blk.past ?_ _ | with_reducible refine Blk.far3 ?_ (by omega) _)); first | with_reducible exact hkb | with_reducible exact HW0.out.2.1))
        clear hK K hHeldB
        try simp only [Act.put, List.setIfInBounds_toArray, List.set_cons_zero, List.set_cons_succ]
        refine wpAnyH_ready (rs := [3]) (by kernel_rfl) (by simp) ?_
        refine AllReadyH.cons rfl (fun K hK => ?_) AllReadyH.nil
        try simp only [List.getElem_toArray, List.getElem_cons_zero, List.getElem_cons_succ]
        go_simp
        first | (with_reducible refine hK.out _ _ ?_ (fun hHeldB => ?_)) | (go_wp2_with fail; refine hK.out _ _ ?_ (fun hHeldB => ?_))
        · first | (dsimp only; ((refine blk_c0 (t := 26) (cs := #[.int .i64 k, .int .u32 n, .string tg, .int .i64 st, .string tx, .int .i64 it, .int .u8 fl, .int .u32 ui, .int .u32 sz, .slice P bl c]) ?_; (repeat (first | with_reducible refine Blk.drew ?_ | with_reducible refine Blk.past ?_ _ | with_reducible refine Blk.far3 ?_ (by omega) _)); first | with_reducible exact hkb | with_reducible exact HW0.out.2.1))) | ((refine blk_c0 (t := 26) (cs := #[.int .i64 k, .int .u32 n, .string tg, .int .i64 st, .string tx, .int .i64 it, .int .u8 fl, .int .u32 ui, .int .u32 sz, .slice P bl c]) ?_; (repeat (first | with_reducible refine Blk.drew ?_ | with_reducible refine Blk.past ?_ _ | with_reducible refine Blk.far3 ?_ (by omega) _)); first | with_reducible exact hkb | with_reducible exact HW0.out.2.1))
        clear hK K hHeldA
        try simp only [Act.put, List.setIfInBounds_toArray, List.set_cons_zero, List.set_cons_succ]
        refine wpAnyH_take (i := 4) (v := ?_) rfl (by kernel_rfl) (by kernel_rfl) (by kernel_rfl) (fun _ _ _ h => h) (Or.inl ⟨by rfl, ?_⟩) (by assumption) ?_
        rotate_left
        · intro w hSw
          try dsimp only at hSw
          go_simp
          try with_reducible rfl
        try simp only [List.getElem_toArray, List.getElem_cons_zero, List.getElem_cons_succ, Act.put, List.setIfInBounds_toArray, List.set_cons_zero, List.set_cons_succ]
        refine wpAnyH_take (i := 5) (v := ?_) rfl (by kernel_rfl) (by kernel_rfl) (by kernel_rfl) (fun _ _ _ h => h) (Or.inl ⟨by rfl, ?_⟩) (by assumption) ?_
        rotate_left
        · intro w hSw
          try dsimp only at hSw
          go_simp
          try with_reducible rfl
        try simp only [List.getElem_toArray, List.getElem_cons_zero, List.getElem_cons_succ, Act.put, List.setIfInBounds_toArray, List.set_cons_zero, List.set_cons_succ]
        refine wpAnyH_take (i := 6) (v := ?_) rfl (by kernel_rfl) (by kernel_rfl) (by kernel_rfl) (fun _ _ _ h => h) (Or.inl ⟨by rfl, ?_⟩) (by assumption) ?_
        rotate_left
        · intro w hSw
          try dsimp only at hSw
          go_simp
          try with_reducible rfl
        try simp only [List.getElem_toArray, List.getElem_cons_zero, List.getElem_cons_succ, Act.put, List.setIfInBounds_toArray, List.set_cons_zero, List.set_cons_succ]
        refine wpAnyH_ready (rs := [8]) (by kernel_rfl) (by simp) ?_
        refine AllReadyH.cons rfl (fun K hK => ?_) AllReadyH.nil
        try simp only [List.getElem_toArray, List.getElem_cons_zero, List.getElem_cons_succ]
        go_simp
        first | (with_reducible refine hK.out _ _ ?_ (fun hHeldA => ?_)) | (go_wp2_with fail; refine hK.out _ _ ?_ (fun hHeldA => ?_))
        · first | (dsimp only; ((refine blk_c0 (t := 26) (cs := #[.int .i64 k, .int .u32 n, .string tg, .int .i64 st, .string tx, .int .i64 it, .int .u8 fl, .int .u32 ui, .int .u32 sz, .slice P bl c]) ?_; (repeat (first | with_reducible refine Blk.drew ?_ | with_reducible refine Blk.past ?_ _ | with_reducible refine Blk.far3 ?_ (by omega) _)); first | with_reducible exact hkb | with_reducible exact HW0.out.2.1))) | ((refine blk_c0 (t := 26) (cs := #[.int .i64 k, .int .u32 n, .string tg, .int .i64 st, .string tx, .int .i64 it, .int .u8 fl, .int .u32 ui, .int .u32 sz, .slice P bl c]) ?_; (repeat (first | with_reducible refine Blk.drew ?_ | with_reducible refine Blk.past ?_ _ | with_reducible refine Blk.far3 ?_ (by omega) _)); first | with_reducible exact hkb | with_reducible exact HW0.out.2.1))
        clear hK K hHeldB
        try simp only [Act.put, List.setIfInBounds_toArray, List.set_cons_zero, List.set_cons_succ]
        refine wpAnyH_take (i := 9) (v := ?_) rfl (by kernel_rfl) (by kernel_rfl) (by kernel_rfl) (fun _ _ _ h => h) (Or.inl ⟨by rfl, ?_⟩) (by assumption) ?_
        rotate_left
        · intro w hSw
          try dsimp only at hSw
          go_simp
          try with_reducible rfl
        try simp only [List.getElem_toArray, List.getElem_cons_zero, List.getElem_cons_succ, Act.put, List.setIfInBounds_toArray, List.set_cons_zero, List.set_cons_succ]
        refine wpAnyH_done (by kernel_rfl) ?_ _
        refine NoPanic.normal ?_
    case' w1x7 =>
      try simp only [List.getElem_toArray, List.getElem_cons_zero, List.getElem_cons_succ]
      go_simp
      first | (with_reducible refine hK.out _ _ ?_ (fun hHeldB => ?_)) | (go_wp2_with fail; refine hK.out _ _ ?_ (fun hHeldB => ?_))
      · first | (dsimp only; ((refine blk_c0 (t := 26) (cs := #[.int .i64 k, .int .u32 n, .string tg, .int .i64 st, .string tx, .int .i64 it, .int .u8 fl, .int .u32 ui, .int .u32 sz, .slice P bl c]) ?_; (repeat (first | with_reducible refine Blk.drew ?_ | with_reducible refine Blk.past ?_ _ | with_reducible refine Blk.far3 ?_ (by omega) _)); first | with_reducible exact hkb | with_reducible exact HW0.out.2.1))) | ((refine blk_c0 (t := 26) (cs := #[.int .i64 k, .int .u32 n, .string tg, .int .i64 st, .string tx, .int .i64 it, .int .u8 fl, .int .u32 ui, .int .u32 sz, .slice P bl c]) ?_; (repeat (first | with_reducible refine Blk.drew ?_ | with_reducible refine Blk.past ?_ _ | with_reducible refine Blk.far3 ?_ (by omega) _)); first | with_reducible exact hkb | with_reducible exact HW0.out.2.1))
      clear hK K hHeldA
      try simp only [Act.put, List.setIfInBounds_toArray, List.set_cons_zero, List.set_cons_succ]
      refine wpAnyH_ready (rs := [0]) (by kernel_rfl) (by simp) ?_
      refine AllReadyH.cons rfl (fun K hK => ?_) AllReadyH.nil
      try simp only [List.getElem_toArray, List.getElem_cons_zero, List.getElem_cons_succ]
      go_simp
      ((go_at_call 26; refine (HM.out _).mono ?_; rintro e w1 ⟨b, g1, g2, g3, g6, g7, g8, g10, rfl, hs⟩; have hl := hs.1.look (kMapFm w) Tryd.underlying52 (zeroFm w1) k; have hl2 := (hs.1.past (.cells #[.nilFunc, .nilFunc] 51)).look (kMapFm w) Tryd.underlying52 (zeroFm _) k; obtain ⟨f1, cc, hkk⟩ := HK.out g1 g2 g3 g6 g7 g8 g10; rw [hkk] at hl hl2; clear hkk; simp only [Option.getD_some, Option.isSome_some, fmV] at hl hl2; have hkb : Blk w1 w.heap.size 26 #[.int .i64 k, .int .u32 n, .string tg, .int .i64 st, .string tx, .int .i64 it, .int .u8 fl, .int .u32 ui, .int .u32 sz, .slice P bl c] := by {first | exact Blk.below HW0.out.2.1.drewd hs.2.1 HW0.out.2.1.lt | exact Blk.below (HW0.out.2.1.past _).drewd hs.2.1 (HW0.out.2.1.past _).lt}; have hlt : w.heap.size < w1.heap.size := hkb.lt; have HBN : Hid (Below w.heap.size w w1) := by {first | exact Lib.hid (below_call HW0.out.1.drew hs.2.1) | exact Lib.hid (below_call (below_new HW0.out.1 _).drew hs.2.1)}; try (have hfb : Blk w1 w0.heap.size 51 #[.nilFunc, .nilFunc] := Blk.below (Blk.made w0 _ _).drewd hs.2.1 (Blk.made w0 _ _).lt; have x0 : w1.cell? ⟨w0.heap.size, 0, none⟩ = some .nilFunc := hfb.cell 0; have x1 : w1.cell? ⟨w0.heap.size, 1, none⟩ = some .nilFunc := hfb.cell 1; have y0 := hfb.frz 0; have y1 := hfb.frz 1); clear hs))
      first | (with_reducible refine hK.out _ _ ?_ (fun hHeldA => ?_)) | (go_wp2_with fail; refine hK.out _ _ ?_ (fun hHeldA => ?_))
      · first | (dsimp only; ((refine blk_c0 (t := 26) (cs := #[.int .i64 k, .int .u32 n, .string tg, .int .i64 st, .string tx, .int .i64 it, .int .u8 fl, .int .u32 ui, .int .u32 sz, .slice P bl c]) ?_; (repeat (first | with_reducible refine Blk.drew ?_ | with_reducible refine Blk.past ?_ _ | with_reducible refine Blk.far3 ?_ (by omega) _)); first | with_reducible exact hkb | with_reducible exact HW0.out.2.1))) | ((refine blk_c0 (t := 26) (cs := #[.int .i64 k, .int .u32 n, .string tg, .int .i64 st, .string tx, .int .i64 it, .int .u8 fl, .int .u32 ui, .int .u32 sz, .slice P bl c]) ?_; (repeat (first | with_reducible refine Blk.drew ?_ | with_reducible refine Blk.past ?_ _ | with_reducible refine Blk.far3 ?_ (by omega) _)); first | with_reducible exact hkb | with_reducible exact HW0.out.2.1))
      clear hK K hHeldB
      try simp only [Act.put, List.setIfInBounds_toArray, List.set_cons_zero, List.set_cons_succ]
      refine wpAnyH_ready (rs := [3]) (by kernel_rfl) (by simp) ?_
      refine AllReadyH.cons rfl (fun K hK => ?_) AllReadyH.nil
      try simp only [List.getElem_toArray, List.getElem_cons_zero, List.getElem_cons_succ]
      go_simp
      first | (with_reducible refine hK.out _ _ ?_ (fun hHeldB => ?_)) | (go_wp2_with fail; refine hK.out _ _ ?_ (fun hHeldB => ?_))
      · first | (dsimp only; ((refine blk_c0 (t := 26) (cs := #[.int .i64 k, .int .u32 n, .string tg, .int .i64 st, .string tx, .int .i64 it, .int .u8 fl, .int .u32 ui, .int .u32 sz, .slice P bl c]) ?_; (repeat (first | with_reducible refine Blk.drew ?_ | with_reducible refine Blk.past ?_ _ | with_reducible refine Blk.far3 ?_ (by omega) _)); first | with_reducible exact hkb | with_reducible exact HW0.out.2.1))) | ((refine blk_c0 (t := 26) (cs := #[.int .i64 k, .int .u32 n, .string tg, .int .i64 st, .string tx, .int .i64 it, .int .u8 fl, .int .u32 ui, .int .u32 sz, .slice P bl c]) ?_; (repeat (first | with_reducible refine Blk.drew ?_ | with_reducible refine Blk.past ?_ _ | with_reducible refine Blk.far3 ?_ (by omega) _)); first | with_reducible exact hkb | with_reducible exact HW0.out.2.1))
      clear hK K hHeldA
      try simp only [Act.put, List.setIfInBounds_toArray, List.set_cons_zero, List.set_cons_succ]
      refine wpAnyH_take (i := 4) (v := ?_) rfl (by kernel_rfl) (by kernel_rfl) (by kernel_rfl) (fun _ _ _ h => h) (Or.inl ⟨by rfl, ?_⟩) (by assumption) ?_
      rotate_left
      · intro w hSw
        try dsimp only at hSw
        go_simp
        try with_reducible rfl
      try simp only [List.getElem_toArray, List.getElem_cons_zero, List.getElem_cons_succ, Act.put, List.setIfInBounds_toArray, List.set_cons_zero, List.set_cons_succ]
      refine wpAnyH_take (i := 5) (v := ?_) rfl (by kernel_rfl) (by kernel_rfl) (by kernel_rfl) (fun _ _ _ h => h) (Or.inl ⟨by rfl, ?_⟩) (by assumption) ?_
      rotate_left
      · intro w hSw
        try dsimp only at hSw
        go_simp
        try with_reducible rfl
      try simp only [List.getElem_toArray, List.getElem_cons_zero, List.getElem_cons_succ, Act.put, List.setIfInBounds_toArray, List.set_cons_zero, List.set_cons_succ]
      refine wpAnyH_take (i := 6) (v := ?_) rfl (by kernel_rfl) (by kernel_rfl) (by kernel_rfl) (fun _ _ _ h => h) (Or.inl ⟨by rfl, ?_⟩) (by assumption) ?_
      rotate_left
      · intro w hSw
        try dsimp only at hSw
        go_simp
        try with_reducible rfl
      try simp only [List.getElem_toArray, List.getElem_cons_zero, List.getElem_cons_succ, Act.put, List.setIfInBounds_toArray, List.set_cons_zero, List.set_cons_succ]
      refine wpAnyH_ready (rs := [8]) (by kernel_rfl) (by simp) ?_
      refine AllReadyH.cons rfl (fun K hK => ?_) AllReadyH.nil
      try simp only [List.getElem_toArray, List.getElem_cons_zero, List.getElem_cons_succ]
      go_simp
      first | (with_reducible refine hK.out _ _ ?_ (fun hHeldA => ?_)) | (go_wp2_with fail; refine hK.out _ _ ?_ (fun hHeldA => ?_))
      · first | (dsimp only; ((refine blk_c0 (t := 26) (cs := #[.int .i64 k, .int .u32 n, .string tg, .int .i64 st, .string tx, .int .i64 it, .int .u8 fl, .int .u32 ui, .int .u32 sz, .slice P bl c]) ?_; (repeat (first | with_reducible refine Blk.drew ?_ | with_reducible refine Blk.past ?_ _ | with_reducible refine Blk.far3 ?_ (by omega) _)); first | with_reducible exact hkb | with_reducible exact HW0.out.2.1))) | ((refine blk_c0 (t := 26) (cs := #[.int .i64 k, .int .u32 n, .string tg, .int .i64 st, .string tx, .int .i64 it, .int .u8 fl, .int .u32 ui, .int .u32 sz, .slice P bl c]) ?_; (repeat (first | with_reducible refine Blk.drew ?_ | with_reducible refine Blk.past ?_ _ | with_reducible refine Blk.far3 ?_ (by omega) _)); first | with_reducible exact hkb | with_reducible exact HW0.out.2.1))
      clear hK K hHeldB
      try simp only [Act.put, List.setIfInBounds_toArray, List.set_cons_zero, List.set_cons_succ]
      refine wpAnyH_take (i := 9) (v := ?_) rfl (by kernel_rfl) (by kernel_rfl) (by kernel_rfl) (fun _ _ _ h => h) (Or.inl ⟨by rfl, ?_⟩) (by assumption) ?_
      rotate_left
      · intro w hSw
        try dsimp only at hSw
        go_simp
        try with_reducible rfl
      try simp only [List.getElem_toArray, List.getElem_cons_zero, List.getElem_cons_succ, Act.put, List.setIfInBounds_toArray, List.set_cons_zero, List.set_cons_succ]
      refine wpAnyH_done (by kernel_rfl) ?_ _
      refine NoPanic.normal ?_
    all_goals
      go_wp2_with fail
      go_meet
      refine ⟨_, f1, cc, rfl, rfl, ?_, ?_, ?_⟩
      · first | exact Blk.made _ _ _ | exact (hfb.put 0 _).put 1 _
      · (repeat (first | with_reducible refine Blk.drew ?_ | with_reducible refine Blk.past ?_ _ | with_reducible refine Blk.far3 ?_ (by omega) _))
        exact hkb
      · (repeat (first | with_reducible refine Below.drew ?_ | with_reducible refine Below.setCell ?_ (by dsimp only; omega) _ | with_reducible refine Below.alloc ?_ (by omega) _))
        exact HBN.out
  case rest =>
    obtain ⟨g, f1, cc, rfl, rfl, hfb, hkb, hbn⟩ := hcut
    have HC := Lib.hid (And.intro hfb (And.intro hkb hbn))
    have d1 : wc.cell? ⟨g, 1, none⟩ = some (.func (.func f2) #[] #[]) := hfb.cell 1
    obtain ⟨⟨c0, c1, c2, c3, c4, c5, c6, c7, c8, c9⟩, -⟩ := Blk.ten hkb
    clear hfb hkb hbn HM HK HW0 hlt0 w0
    go_wp2_with fail
    refine (HF.out _ ?bel).mono ?_
    · exact HC.out.2.2
    rintro e w3 ⟨rfl, hb3⟩
    have HC3 : Hid (Blk w3 w.heap.size 26 #[.int .i64 k, .int .u32 n, .string tg, .int .i64 st, .string tx, .int .i64 it, .int .u8 fl, .int .u32 ui, .int .u32 sz, .slice P bl c] ∧ Below w.heap.size w w3) := Lib.hid ⟨Blk.below HC.out.2.1 hb3 HC.out.2.1.lt, below_call HC.out.2.2 hb3⟩
    clear c0 c1 c2 c3 c4 c5 c6 c7 c8 c9 hb3 d1 HC
    obtain ⟨⟨c0, c1, c2, c3, c4, c5, c6, c7, c8, c9⟩, -⟩ := Blk.ten HC3.out.1
    have hlt3 := HC3.out.1.lt
    have hle3 := HC3.out.2.size
    cases right with
    | false =>
      go_wp2_with fail
      go_ret
      refine ⟨rfl, ?_⟩
      (repeat (first | with_reducible refine Below.drew ?_ | with_reducible refine Below.setCell ?_ (by dsimp only; omega) _ | with_reducible refine Below.alloc ?_ (by omega) _))
      exact HC3.out.2
    | true =>
      go_wp2_with fail
      refine (HSM.out _ ?bel2).mono ?_
      · (repeat (first | with_reducible refine Below.drew ?_ | with_reducible refine Below.setCell ?_ (by dsimp only; omega) _ | with_reducible refine Below.alloc ?_ (by omega) _))
        exact HC3.out.2
      rintro e w4 ⟨rfl, hb4⟩
      have HB4 : Hid (Below w.heap.size w w4) := by
        refine Lib.hid (below_call ?_ hb4)
        (repeat (first | with_reducible refine Below.drew ?_ | with_reducible refine Below.setCell ?_ (by dsimp only; omega) _ | with_reducible refine Below.alloc ?_ (by omega) _))
        exact HC3.out.2
      clear hb4
      go_wp2_with fail
      go_ret
      exact ⟨rfl, HB4.out⟩
end Go.Proofs.YtgdhakkfddmkjaaDoor
namespace Go.Proofs.YtgdhakkfddmkjaaDoor
open Go.RowKit

def andNot (a b : Nat) : Nat := a &&& (31 ^^^ b)
/-- Change. -/
def changeB (o : Nat) (mode : Int) (f : Nat) : Option Nat :=
  if 31 < o ∨ 31 < f then none else if mode = 0 then some f else if mode = 1 then some (o ||| f) else if mode = 2 then some (andNot o f) else none
theorem andNot_bits (a b : Nat) (ha : a < 32) (hb : b < 32) : bits .andNot .u8 (a : Int) (b : Int) = ((andNot a b : Nat) : Int) ∧ bits .andNot .i64 (a : Int) (b : Int) = ((andNot a b : Nat) : Int) ∧ andNot a b < 32 := by
  have h : ∀ a b : Fin 32, bits .andNot .u8 (a.val : Int) (b.val : Int) = ((andNot a.val b.val : Nat) : Int) ∧ bits .andNot .i64 (a.val : Int) (b.val : Int) = ((andNot a.val b.val : Nat) : Int) ∧ andNot a.val b.val < 32 := by decide +kernel
  exact h ⟨a, ha⟩ ⟨b, hb⟩
def fnV (f : FuncId) : Value := .func (.func f) #[] #[]
section
variable {w : World}
end

end Go.Proofs.YtgdhakkfddmkjaaDoor
namespace Go.Proofs.YtgdhakkfddmkjaaDoor
open Go.RowKit

set_option maxRecDepth 100000 in
theorem rName_any (f : Nat) (hf : f < 256) (w : World) : Calls Tryd.prog 47 #[.int .i64 f] w fun e w' => e = .returned (.string (ofL (fname f))) ∧ w = w' := by
  by_cases h1 : f = 1
  · subst h1
    go_enter Tryd.func47, Tryd.ntmps47
    go_wp2
    go_ret
    exact ⟨rfl, rfl⟩
  · by_cases h2 : f = 2
    · subst h2
      go_enter Tryd.func47, Tryd.ntmps47
      go_wp2
      go_ret
      exact ⟨rfl, rfl⟩
    · by_cases h4 : f = 4
      · subst h4
        go_enter Tryd.func47, Tryd.ntmps47
        go_wp2
        go_ret
        exact ⟨rfl, rfl⟩
      · by_cases h8 : f = 8
        · subst h8
          go_enter Tryd.func47, Tryd.ntmps47
          go_wp2
          go_ret
          exact ⟨rfl, rfl⟩
        · by_cases h16 : f = 16
          · subst h16
            go_enter Tryd.func47, Tryd.ntmps47
            go_wp2
            go_ret
            exact ⟨rfl, rfl⟩
          · have R : fname f = [] := by unfold fname; rw [if_neg h1, if_neg h2, if_neg h4, if_neg h8, if_neg h16]
            rw [R]
            have b1 : ((f : Int) == 1) = false := by rw [beq_eq_false_iff_ne]; omega
            have b2 : ((f : Int) == 2) = false := by rw [beq_eq_false_iff_ne]; omega
            have b4 : ((f : Int) == 4) = false := by rw [beq_eq_false_iff_ne]; omega
            have b8 : ((f : Int) == 8) = false := by rw [beq_eq_false_iff_ne]; omega
            have b16 : ((f : Int) == 16) = false := by rw [beq_eq_false_iff_ne]; omega
            clear R h1 h2 h4 h8 h16
            go_enter Tryd.func47, Tryd.ntmps47
            go_wp2
            go_ret
            exact ⟨rfl, rfl⟩

theorem flag_hit {k : Nat} {wd : List UInt8} (hk : k < 5) (h : (fname (2 ^ k)).map upB = wd.map upB) : flagVal wd = some (2 ^ k) := by
  unfold flagVal
  rw [← h]
  have h : ∀ k : Fin 5, flagUp ((fname (2 ^ k.val)).map upB) = some (2 ^ k.val) := by decide +kernel
  exact h ⟨k, hk⟩
theorem flag_miss {wd : List UInt8} (h : ∀ j, j < 5 → (fname (2 ^ j)).map upB ≠ wd.map upB) : flagVal wd = none := by
  have h0 := h 0 (by omega)
  have h1 := h 1 (by omega)
  have h2 := h 2 (by omega)
  have h3 := h 3 (by omega)
  have h4 := h 4 (by omega)
  unfold flagVal
  generalize wd.map upB = u at *
  unfold flagUp flagTab
  simp only [List.find?_cons, List.find?_nil]
  rw [decide_eq_false (fun e => h0 e.symm), decide_eq_false (fun e => h1 e.symm), decide_eq_false (fun e => h2 e.symm), decide_eq_false (fun e => h3 e.symm), decide_eq_false (fun e => h4 e.symm)]
  rfl
theorem upS_ofL (l : List UInt8) : upS (ofL l) = ofL (l.map upB) := by unfold upS; rw [ofL_data]; rfl
theorem str_eq (a b : List UInt8) : ((ofL a).toList == (ofL b).toList) = decide (a = b) := by
  rw [ByteArray.toList_eq, ByteArray.toList_eq, ofL_data, ofL_data, Bool.eq_iff_iff, beq_iff_eq, decide_eq_true_eq]
def pow2 (k : Nat) : Nat := 2 ^ k
theorem pow2_lt {k : Nat} (hk : k < 5) : pow2 k ≤ 16 ∧ 0 < pow2 k ∧ pow2 (k + 1) = 2 * pow2 k := by
  have h : ∀ k : Fin 5, pow2 k.val ≤ 16 ∧ 0 < pow2 k.val ∧ pow2 (k.val + 1) = 2 * pow2 k.val := by decide
  exact h ⟨k, hk⟩

end Go.Proofs.YtgdhakkfddmkjaaDoor
namespace Go.Proofs.YtgdhakkfddmkjaaDoor
open Go.RowKit

theorem and_bits64 (f k : Nat) (hf : f < 256) (hk : k < 5) : bits .and .i64 (f : Int) (pow2 k : Int) = ((f &&& 2 ^ k : Nat) : Int) := by
  have h : ∀ f : Fin 256, ∀ k : Fin 5, bits .and .i64 (f.val : Int) (pow2 k.val : Int) = ((f.val &&& 2 ^ k.val : Nat) : Int) := by decide +kernel
  exact h ⟨f, hf⟩ ⟨k, hk⟩
theorem and_self (f k : Nat) (hf : f < 256) (hk : k < 5) (h : f &&& 2 ^ k ≠ 0) : f &&& 2 ^ k = pow2 k := by
  have h0 : ∀ f : Fin 256, ∀ k : Fin 5, f.val &&& 2 ^ k.val ≠ 0 → f.val &&& 2 ^ k.val = pow2 k.val := by decide +kernel
  exact h0 ⟨f, hf⟩ ⟨k, hk⟩ h
theorem joinF_snoc (a : List UInt8) : ∀ L : List (List UInt8), L ≠ [] → joinF (L ++ [a]) = joinF L ++ 32 :: a
  | [], h => absurd rfl h
  | [b], _ => rfl
  | b :: c :: r, _ => by
    have ih := joinF_snoc a (c :: r) (by simp)
    show b ++ 32 :: joinF (c :: r ++ [a]) = (b ++ 32 :: joinF (c :: r)) ++ 32 :: a
    rw [ih]; simp
/-- What the reference has put together when k flags are done. -/
def accF (f k : Nat) : List UInt8 := joinF ((eachTo f k).map fname)
theorem fname_pow_ne (k : Nat) (hk : k < 5) : fname (2 ^ k) ≠ [] := by
  have h : ∀ k : Fin 5, fname (2 ^ k.val) ≠ [] := by decide
  exact h ⟨k, hk⟩
theorem accF_next0 (f k : Nat) (h : f &&& 2 ^ k = 0) : accF f (k + 1) = accF f k := by unfold accF; rw [eachTo_next, if_pos h]
theorem joinF_ne : ∀ L : List (List UInt8), (∀ x ∈ L, x ≠ []) → joinF L = [] → L = []
  | [], _, _ => rfl
  | [a], h, e => absurd e (h a (by simp))
  | a :: b :: r, h, e => by
    unfold joinF at e
    simp at e
theorem accF_next (f k : Nat) (hf : f < 256) (hk : k < 5) (h : f &&& 2 ^ k ≠ 0) : accF f (k + 1) = if accF f k = [] then fname (pow2 k) else accF f k ++ 32 :: fname (pow2 k) := by
  have e := and_self f k hf hk h
  unfold accF
  rw [eachTo_next, if_neg h, List.map_append, List.map_singleton, e]
  by_cases h0 : eachTo f k = []
  · rw [h0]; rfl
  · have h1 : (eachTo f k).map fname ≠ [] := by simpa using h0
    rw [if_neg, joinF_snoc _ _ h1]
    intro h2
    refine h1 (joinF_ne _ (fun x hx => ?_) h2)
    have h3 : ∀ f : Fin 256, ∀ k : Fin 5, ∀ x ∈ (eachTo f.val k.val).map fname, x ≠ [] := by decide +kernel
    exact h3 ⟨f, hf⟩ ⟨k, hk⟩ x hx
theorem accF_len (f k : Nat) (hk : k ≤ 5) : (accF f k).length ≤ 50 := by
  have h := joinF_len ((eachTo f k).map fname) 9 (fun x hx => by
    obtain ⟨y, _, rfl⟩ := List.mem_map.1 hx
    exact fname_len y)
  have h2 := eachTo_le f k
  rw [List.length_map] at h
  unfold accF
  omega
theorem str_add (a b : List UInt8) : ofL a ++ ofL b = ofL (a ++ b) := ofL_append a b

set_option maxRecDepth 100000 in
set_option maxHeartbeats 800000 in
theorem rList_any (f : Nat) (hf : f < 256) (w : World) :
    Calls Tryd.prog 31 #[.int .i64 f] w fun e w' => e = .returned (.string (ofL (listF f))) ∧ w = w' := by
  go_enter Tryd.func31, Tryd.ntmps31
  go_wp2_with fail
  go_loop [3, 4] (fun s i => ∃ k : Nat, k ≤ 5 ∧ i = .int .i64 (pow2 k : Nat) ∧ s = .string (ofL (accF f k))) (fun _ i => 32 - (intOf i).toNat)
  case atStart => exact ⟨0, by omega, rfl, rfl⟩
  case round =>
    obtain ⟨k, hk, rfl, rfl⟩ := hrel
    have hal := accF_len f k hk
    have has : (ofL (accF f k)).size ≤ 50 := by rw [ofL_size]; exact hal
    by_cases hlt : k < 5
    · obtain ⟨p1, p2, p3⟩ := pow2_lt hlt
      have HP3 := Lib.hid p3
      have hbits := and_bits64 f k hf hlt
      clear p3
      by_cases h0 : f &&& 2 ^ k = 0
      · have R := Lib.hid (accF_next0 f k h0)
        rw [h0] at hbits
        clear h0
        generalize pow2 k = x at *
        generalize accF f k = acc at *
        go_wp2_with fail
        go_round
        case rel => exact ⟨k + 1, by omega, by rw [HP3.out]; go_num, by rw [R.out]⟩
        case measure => simp [intOf]; omega
      · have R := Lib.hid (accF_next f k hf hlt h0)
        rw [and_self f k hf hlt h0] at hbits
        have HN := Lib.hid (fun w => rName_any (pow2 k) (by omega) w)
        have hns : (ofL (fname (pow2 k))).size ≤ 9 := by rw [ofL_size]; exact fname_len _
        have hb0 : ((pow2 k : Int) == 0) = false := by rw [beq_eq_false_iff_ne]; omega
        clear h0
        generalize pow2 k = x at *
        generalize fname x = nm at *
        generalize accF f k = acc at *
        by_cases hac : acc = []
        · subst hac
          have R2 : Hid (accF f (k + 1) = nm) := Lib.hid (by rw [R.out, if_pos rfl])
          rw [show ofL [] = ⟨#[]⟩ from rfl]
          clear R has hal
          go_wp2_with fail
          refine (HN.out _).mono ?_
          rintro e w1 ⟨rfl, rfl⟩
          go_wp2_with fail
          go_round
          case rel => exact ⟨k + 1, by omega, by rw [HP3.out]; go_num, by rw [R2.out, show (⟨#[]⟩ : ByteArray) = ofL [] from rfl, str_add]; rfl⟩
          case measure => simp [intOf]; omega
        · have R2 : Hid (accF f (k + 1) = acc ++ 32 :: nm) := Lib.hid (by rw [R.out, if_neg hac])
          have e1 : ¬ (ofL acc).toList = [] := by rw [ByteArray.toList_eq, ofL_data]; exact hac
          have e2 : (ofL acc).toList.isEmpty = false := by rw [ByteArray.toList_eq, ofL_data]; cases acc with | nil => exact absurd rfl hac | cons _ _ => rfl
          have e3 : acc.isEmpty = false := by cases acc with | nil => exact absurd rfl hac | cons _ _ => rfl
          clear R hac
          go_wp2_with fail
          refine (HN.out _).mono ?_
          rintro e w1 ⟨rfl, rfl⟩
          go_wp2_with fail
          go_round
          case rel => exact ⟨k + 1, by omega, by rw [HP3.out]; go_num, by rw [R2.out, show (⟨#[32]⟩ : ByteArray) = ofL [32] from rfl, str_add, str_add]; simp⟩
          case measure => simp [intOf]; omega
    · obtain rfl : k = 5 := by omega
      have R : Hid (listF f = 40 :: (accF f 5 ++ [41])) := Lib.hid rfl
      have e32 : pow2 5 = 32 := rfl
      rw [e32]
      clear e32
      generalize accF f 5 = acc at *
      go_wp2_with fail
      go_ret
      exact ⟨by rw [R.out, ← paren]; rfl, rfl⟩

def chgV (o : Option Nat) : Int := match o with | none => -1 | some x => (x : Int)
end Go.Proofs.YtgdhakkfddmkjaaDoor
