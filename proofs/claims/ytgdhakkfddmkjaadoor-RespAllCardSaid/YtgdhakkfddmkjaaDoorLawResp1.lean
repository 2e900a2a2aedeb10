/- The walk of the law RespPrints. -/
import Derived.Deep.RegionHeld3
import Derived.Test.YtgdhakkfddmkjaaDoorJ13
set_option linter.unusedVariables false
set_option linter.unusedSimpArgs false
namespace Go.Proofs.YtgdhakkfddmkjaaDoor
open Go.RowKit

theorem few_blk (r : Rsp) (P : Option Addr) (c g : Nat) (W : World) (hs : r.tag.length ≤ maxLen ∧ r.text.length ≤ maxLen ∧ r.body.length ≤ maxLen) (h : Blk W g 26 (rspA r P c)) :
    Calls Tryd.prog 9 #[.slice (some ⟨g, 0, none⟩) 1 1] W fun e w' => e = .returned (.bool (fewB [r])) ∧ W = w' :=
  few_some g 0 1 [r] W (by simp) (fun i hi => by
      have : i = 0 := by simp at hi; exact hi
      subst this; exact hs) (fun i hi => by
      have : i = 0 := by simp at hi; exact hi
      subst this
      refine ⟨by rw [h.cell]; rfl, by rw [h.cell]; rfl, P, c, by rw [h.cell]; rfl⟩)

set_option maxRecDepth 100000 in
set_option maxHeartbeats 6400000 in
theorem prints_core (k n st it fl ui sz : Int) (tg tx : ByteArray) (P : Option Addr) (bl c : Nat) (w : World) (few ok : Bool) (l : List UInt8) (hl : l.length ≤ 1000000) (hl0 : ok = false → l = [])
    (hfew : ∀ W g, Blk W g 26 #[.int .i64 k, .int .u32 n, .string tg, .int .i64 st, .string tx, .int .i64 it, .int .u8 fl, .int .u32 ui, .int .u32 sz, .slice P bl c] → Calls Tryd.prog 9 #[.slice (some ⟨g, 0, none⟩) 1 1] W fun e w' => e = .returned (.bool few) ∧ W = w')
    (hal : ∀ W, Below w.heap.size w W → Calls Tryd.prog 10 #[] W fun e w' => e = .returned (.bool true) ∧ Below W.heap.size W w')
    (hpr : few = true → ∀ W, Below w.heap.size w W → Calls Tryd.prog 11 #[.agg #[.int .i64 k, .int .u32 n, .string tg, .int .i64 st, .string tx, .int .i64 it, .int .u8 fl, .int .u32 ui, .int .u32 sz, .slice P bl c]] W (PrPost W ok l))
    (hv : few = true → ∀ W, Below w.heap.size w W → Calls Tryd.prog 13 #[.agg #[.int .i64 k, .int .u32 n, .string tg, .int .i64 st, .string tx, .int .i64 it, .int .u8 fl, .int .u32 ui, .int .u32 sz, .slice P bl c]] W fun e w' => e = .returned (.bool ok) ∧ Below W.heap.size W w')
    (hrv : few = true → ∀ W, Below w.heap.size w W → Calls Tryd.prog 12 #[.agg #[.int .i64 k, .int .u32 n, .string tg, .int .i64 st, .string tx, .int .i64 it, .int .u8 fl, .int .u32 ui, .int .u32 sz, .slice P bl c]] W fun e w' => e = .returned (.bool ok) ∧ Below W.heap.size W w')
    (hfo : few = true → ok = true → ∀ W, Below w.heap.size w W → Calls Tryd.prog 14 #[.agg #[.int .i64 k, .int .u32 n, .string tg, .int .i64 st, .string tx, .int .i64 it, .int .u8 fl, .int .u32 ui, .int .u32 sz, .slice P bl c]] W fun e w' => e = .returned (.string (ofL l)) ∧ Below W.heap.size W w') :
    Calls Tryd.prog 3 #[.agg #[.int .i64 k, .int .u32 n, .string tg, .int .i64 st, .string tx, .int .i64 it, .int .u8 fl, .int .u32 ui, .int .u32 sz, .slice P bl c]] w fun e w' => e = .returned (.bool true) ∧ Below w.heap.size w w' := by
  have HFW := Lib.hid hfew
  have HAL := Lib.hid hal
  have HPR := Lib.hid hpr
  have HV := Lib.hid hv
  have HRV := Lib.hid hrv
  have HFO := Lib.hid hfo
  have HL0 := Lib.hid hl0
  clear hfew hal hpr hv hrv hfo hl0
  cases few with
  | false =>
    go_enter Tryd.func3, Tryd.ntmps3
    go_wp2_with fail
    refine (HFW.out _ _ (by have := Blk.made (w.alloc (.cells #[.int .i64 k, .int .u32 n, .string tg, .int .i64 st, .string tx, .int .i64 it, .int .u8 fl, .int .u32 ui, .int .u32 sz, .slice P bl c] 26)) 26 #[.int .i64 k, .int .u32 n, .string tg, .int .i64 st, .string tx, .int .i64 it, .int .u8 fl, .int .u32 ui, .int .u32 sz, .slice P bl c]; rw [World.size_alloc] at this; exact this)).mono ?_
    rintro e w1 ⟨rfl, rfl⟩
    go_wp2_with fail
    refine (HAL.out _ (((Below.refl _ _).alloc (Nat.le_refl _) _).alloc (by rw [World.size_alloc]; omega) _)).mono ?_
    rintro e w1 ⟨rfl, hb⟩
    have HB := Lib.hid (below_call (((Below.refl w.heap.size w).alloc (Nat.le_refl _) _).alloc (by rw [World.size_alloc]; omega) _) hb)
    clear hb
    go_wp2_with fail
    go_ret
    exact ⟨rfl, HB.out⟩
  | true =>
    replace HPR := Lib.hid (HPR.out rfl)
    replace HV := Lib.hid (HV.out rfl)
    replace HRV := Lib.hid (HRV.out rfl)
    replace HFO := Lib.hid (HFO.out rfl)
    go_enter Tryd.func3, Tryd.ntmps3
    go_wp2_with fail
    refine (HFW.out _ _ (by have := Blk.made (w.alloc (.cells #[.int .i64 k, .int .u32 n, .string tg, .int .i64 st, .string tx, .int .i64 it, .int .u8 fl, .int .u32 ui, .int .u32 sz, .slice P bl c] 26)) 26 #[.int .i64 k, .int .u32 n, .string tg, .int .i64 st, .string tx, .int .i64 it, .int .u8 fl, .int .u32 ui, .int .u32 sz, .slice P bl c]; rw [World.size_alloc] at this; exact this)).mono ?_
    rintro e w1 ⟨rfl, rfl⟩
    go_wp2_with fail
    have HW0 : Hid (Below w.heap.size w ((w.alloc (.cells #[.int .i64 k, .int .u32 n, .string tg, .int .i64 st, .string tx, .int .i64 it, .int .u8 fl, .int .u32 ui, .int .u32 sz, .slice P bl c] 26)).alloc (.cells #[.int .i64 k, .int .u32 n, .string tg, .int .i64 st, .string tx, .int .i64 it, .int .u8 fl, .int .u32 ui, .int .u32 sz, .slice P bl c] 26)) ∧ Blk ((w.alloc (.cells #[.int .i64 k, .int .u32 n, .string tg, .int .i64 st, .string tx, .int .i64 it, .int .u8 fl, .int .u32 ui, .int .u32 sz, .slice P bl c] 26)).alloc (.cells #[.int .i64 k, .int .u32 n, .string tg, .int .i64 st, .string tx, .int .i64 it, .int .u8 fl, .int .u32 ui, .int .u32 sz, .slice P bl c] 26)) w.heap.size 26 #[.int .i64 k, .int .u32 n, .string tg, .int .i64 st, .string tx, .int .i64 it, .int .u8 fl, .int .u32 ui, .int .u32 sz, .slice P bl c] ∧ w.heap.size < ((w.alloc (.cells #[.int .i64 k, .int .u32 n, .string tg, .int .i64 st, .string tx, .int .i64 it, .int .u8 fl, .int .u32 ui, .int .u32 sz, .slice P bl c] 26)).alloc (.cells #[.int .i64 k, .int .u32 n, .string tg, .int .i64 st, .string tx, .int .i64 it, .int .u8 fl, .int .u32 ui, .int .u32 sz, .slice P bl c] 26)).heap.size) := Lib.hid ⟨((Below.refl _ _).alloc (Nat.le_refl _) _).alloc (by rw [World.size_alloc]; omega) _, (Blk.made _ _ _).past _, by simp only [World.size_alloc]; omega⟩
    generalize (w.alloc (.cells #[.int .i64 k, .int .u32 n, .string tg, .int .i64 st, .string tx, .int .i64 it, .int .u8 fl, .int .u32 ui, .int .u32 sz, .slice P bl c] 26)).alloc (.cells #[.int .i64 k, .int .u32 n, .string tg, .int .i64 st, .string tx, .int .i64 it, .int .u8 fl, .int .u32 ui, .int .u32 sz, .slice P bl c] 26) = w0 at *
    refine (HPR.out _ HW0.out.1).mono ?_
    rintro e w1 ⟨v, rfl, hbuf, hb1⟩
    obtain ⟨pv, cv, rfl, -, hby⟩ := hbuf.bys
    have H1 : Hid (Below w.heap.size w w1 ∧ Blk w1 w.heap.size 26 #[.int .i64 k, .int .u32 n, .string tg, .int .i64 st, .string tx, .int .i64 it, .int .u8 fl, .int .u32 ui, .int .u32 sz, .slice P bl c] ∧ w.heap.size < w1.heap.size ∧ Bys w1 w1.heap.size pv l) := Lib.hid ⟨below_call HW0.out.1 hb1, Blk.below HW0.out.2.1 hb1 HW0.out.2.2, Nat.lt_of_lt_of_le HW0.out.2.2 hb1.size, hby⟩
    clear hb1 hbuf hby HW0
    obtain ⟨⟨c0, c1, c2, c3, c4, c5, c6, c7, c8, c9⟩, -⟩ := Blk.ten H1.out.2.1
    have hz1 := H1.out.2.2.1
    go_wp2_with fail
    refine (HRV.out _ H1.out.1).mono ?_
    rintro e w2 ⟨rfl, hb2⟩
    have H2 : Hid (Below w.heap.size w w2 ∧ Blk w2 w.heap.size 26 #[.int .i64 k, .int .u32 n, .string tg, .int .i64 st, .string tx, .int .i64 it, .int .u8 fl, .int .u32 ui, .int .u32 sz, .slice P bl c] ∧ w.heap.size < w2.heap.size ∧ Bys w2 w2.heap.size pv l) := Lib.hid ⟨below_call H1.out.1 hb2, Blk.below H1.out.2.1 hb2 hz1, Nat.lt_of_lt_of_le hz1 hb2.size, (H1.out.2.2.2.below hb2).more hb2.size⟩
    clear hb2 c0 c1 c2 c3 c4 c5 c6 c7 c8 c9 hz1 H1
    obtain ⟨⟨c0, c1, c2, c3, c4, c5, c6, c7, c8, c9⟩, -⟩ := Blk.ten H2.out.2.1
    have hz2 := H2.out.2.2.1
    cases ok with
    | false =>
      obtain rfl := HL0.out rfl
      go_wp2_with fail
      refine (HAL.out _ H2.out.1).mono ?_
      rintro e w3 ⟨rfl, hb3⟩
      have H3 : Hid (Below w.heap.size w w3 ∧ Blk w3 w.heap.size 26 #[.int .i64 k, .int .u32 n, .string tg, .int .i64 st, .string tx, .int .i64 it, .int .u8 fl, .int .u32 ui, .int .u32 sz, .slice P bl c]) := Lib.hid ⟨below_call H2.out.1 hb3, Blk.below H2.out.2.1 hb3 hz2⟩
      clear hb3 c0 c1 c2 c3 c4 c5 c6 c7 c8 c9
      obtain ⟨⟨c0, c1, c2, c3, c4, c5, c6, c7, c8, c9⟩, -⟩ := Blk.ten H3.out.2
      go_wp2_with fail
      refine (HV.out _ H3.out.1).mono ?_
      rintro e w4 ⟨rfl, hb4⟩
      have HB := Lib.hid (below_call H3.out.1 hb4)
      clear hb4
      go_wp2_with fail
      go_ret
      exact ⟨rfl, HB.out⟩
    | true =>
      replace HFO := Lib.hid (HFO.out rfl)
      go_wp2_with fail
      refine wp_region_noPanic ?_
      refine wp_region_held_drew (S := (fun W => W.cell? ⟨w.heap.size, 0, none⟩ = some (.int .i64 k) ∧ W.cell? ⟨w.heap.size, 1, none⟩ = some (.int .u32 n) ∧ W.cell? ⟨w.heap.size, 2, none⟩ = some (.string tg) ∧ W.cell? ⟨w.heap.size, 3, none⟩ = some (.int .i64 st) ∧ W.cell? ⟨w.heap.size, 4, none⟩ = some (.string tx) ∧ W.cell? ⟨w.heap.size, 5, none⟩ = some (.int .i64 it) ∧ W.cell? ⟨w.heap.size, 6, none⟩ = some (.int .u8 fl) ∧ W.cell? ⟨w.heap.size, 7, none⟩ = some (.int .u32 ui) ∧ W.cell? ⟨w.heap.size, 8, none⟩ = some (.int .u32 sz) ∧ W.cell? ⟨w.heap.size, 9, none⟩ = some (.slice P bl c))) (by kernel_rfl) ?_ (fun hHeldA => ?_)
      · first | (dsimp only; ((refine ten_all (t := 26) ?_; (repeat (first | with_reducible refine Blk.drew ?_ | with_reducible refine Blk.past ?_ _ | with_reducible refine Blk.far3 ?_ (by omega) _)); first | with_reducible exact HE5.out.2 | with_reducible exact HE4.out.2.1 | with_reducible exact HE3.out.2.1 | with_reducible exact H2.out.2.1))) | ((refine ten_all (t := 26) ?_; (repeat (first | with_reducible refine Blk.drew ?_ | with_reducible refine Blk.past ?_ _ | with_reducible refine Blk.far3 ?_ (by omega) _)); first | with_reducible exact HE5.out.2 | with_reducible exact HE4.out.2.1 | with_reducible exact HE3.out.2.1 | with_reducible exact H2.out.2.1))
      refine wpAnyH_ready (rs := [0]) (by kernel_rfl) (by simp) ?_
      refine AllReadyH.cons rfl (fun K hK => ?_) AllReadyH.nil
      try simp only [List.getElem_toArray, List.getElem_cons_zero, List.getElem_cons_succ]
      go_simp
      (first
          | (go_at_call 10; refine (HAL.out _ (Below.drew H2.out.1)).mono ?_; rintro e w3 ⟨rfl, hb3⟩; have HE3 : Hid (Below w.heap.size w w3 ∧ Blk w3 w.heap.size 26 #[.int .i64 k, .int .u32 n, .string tg, .int .i64 st, .string tx, .int .i64 it, .int .u8 fl, .int .u32 ui, .int .u32 sz, .slice P bl c] ∧ w.heap.size < w3.heap.size ∧ Bys w3 w3.heap.size pv l) := Lib.hid ⟨below_call (Below.drew H2.out.1) hb3, Blk.below H2.out.2.1.drewd hb3 hz2, Nat.lt_of_lt_of_le hz2 hb3.size, (H2.out.2.2.2.drew.below hb3).more hb3.size⟩; clear hb3; have hcnv : (convert 24 9 (.slice pv l.length cv)).run Tryd.prog w3 = .ok (.string (ofL l)) w3 := conv_bys HE3.out.2.2.2 cv Tryd.underlying24 Tryd.underlying5 Tryd.underlying9)
          | (go_at_call 14; refine (HFO.out _ HE3.out.1).mono ?_; rintro e w4 ⟨rfl, hb4⟩; have HE4 : Hid (Below w.heap.size w w4 ∧ Blk w4 w.heap.size 26 #[.int .i64 k, .int .u32 n, .string tg, .int .i64 st, .string tx, .int .i64 it, .int .u8 fl, .int .u32 ui, .int .u32 sz, .slice P bl c] ∧ w.heap.size < w4.heap.size ∧ Bys w4 w4.heap.size pv l) := Lib.hid ⟨below_call HE3.out.1 hb4, Blk.below HE3.out.2.1 hb4 HE3.out.2.2.1, Nat.lt_of_lt_of_le HE3.out.2.2.1 hb4.size, (HE3.out.2.2.2.below hb4).more hb4.size⟩; clear hb4 hcnv; have hcnv : (convert 24 9 (.slice pv l.length cv)).run Tryd.prog w4 = .ok (.string (ofL l)) w4 := conv_bys HE4.out.2.2.2 cv Tryd.underlying24 Tryd.underlying5 Tryd.underlying9)
          | (go_at_call 13; refine (HV.out _ HE4.out.1).mono ?_; rintro e w5 ⟨rfl, hb5⟩; have HE5 : Hid (Below w.heap.size w w5 ∧ Blk w5 w.heap.size 26 #[.int .i64 k, .int .u32 n, .string tg, .int .i64 st, .string tx, .int .i64 it, .int .u8 fl, .int .u32 ui, .int .u32 sz, .slice P bl c]) := Lib.hid ⟨below_call HE4.out.1 hb5, Blk.below HE4.out.2.1 hb5 HE4.out.2.2.1⟩; clear hb5 hcnv))
      first | (with_reducible refine hK.out _ _ ?_ (fun hHeldB => ?_)) | (go_wp2_with fail; refine hK.out _ _ ?_ (fun hHeldB => ?_))
      · first | (dsimp only; ((refine ten_all (t := 26) ?_; (repeat (first | with_reducible refine Blk.drew ?_ | with_reducible refine Blk.past ?_ _ | with_reducible refine Blk.far3 ?_ (by omega) _)); first | with_reducible exact HE5.out.2 | with_reducible exact HE4.out.2.1 | with_reducible exact HE3.out.2.1 | with_reducible exact H2.out.2.1))) | ((refine ten_all (t := 26) ?_; (repeat (first | with_reducible refine Blk.drew ?_ | with_reducible refine Blk.past ?_ _ | with_reducible refine Blk.far3 ?_ (by omega) _)); first | with_reducible exact HE5.out.2 | with_reducible exact HE4.out.2.1 | with_reducible exact HE3.out.2.1 | with_reducible exact H2.out.2.1))
      clear hK K hHeldA
      try simp only [Act.put, List.setIfInBounds_toArray, List.set_cons_zero, List.set_cons_succ]
      refine wpAnyH_take (i := 1) (v := ?_) rfl (by kernel_rfl) (by kernel_rfl) (by kernel_rfl) (fun _ _ _ h => h) (Or.inl ⟨by rfl, ?_⟩) (by assumption) ?_
      rotate_left
      · intro w hSw
        try dsimp only at hSw
        go_simp
        try with_reducible rfl
      try simp only [List.getElem_toArray, List.getElem_cons_zero, List.getElem_cons_succ, Act.put, List.setIfInBounds_toArray, List.set_cons_zero, List.set_cons_succ]
      refine wpAnyH_take (i := 2) (v := ?_) rfl (by kernel_rfl) (by kernel_rfl) (by kernel_rfl) (fun _ _ _ h => h) (Or.inl ⟨by rfl, ?_⟩) (by assumption) ?_
      rotate_left
      · intro w hSw
        try dsimp only at hSw
        go_simp
        try with_reducible rfl
      try simp only [List.getElem_toArray, List.getElem_cons_zero, List.getElem_cons_succ, Act.put, List.setIfInBounds_toArray, List.set_cons_zero, List.set_cons_succ]
      refine wpAnyH_take (i := 4) (v := ?_) rfl (by kernel_rfl) (by kernel_rfl) (by kernel_rfl) (fun _ _ _ h => h) (Or.inl ⟨by rfl, ?_⟩) (by assumption) ?_
      rotate_left
      · intro w hSw
        try dsimp only at hSw
        go_simp
        try with_reducible rfl
      try simp only [List.getElem_toArray, List.getElem_cons_zero, List.getElem_cons_succ, Act.put, List.setIfInBounds_toArray, List.set_cons_zero, List.set_cons_succ]
      refine wpAnyH_ready (rs := [3, 5]) (by kernel_rfl) (by simp) ?_
      refine AllReadyH.cons rfl (fun K hK => ?w1x3) (AllReadyH.cons rfl (fun K hK => ?w1x5) (AllReadyH.nil))
      case' w1x3 =>
        try simp only [List.getElem_toArray, List.getElem_cons_zero, List.getElem_cons_succ]
        go_simp
        first | (with_reducible refine hK.out _ _ ?_ (fun hHeldA => ?_)) | (go_wp2_with fail; refine hK.out _ _ ?_ (fun hHeldA => ?_))
        · first | (dsimp only; ((refine ten_all (t := 26) ?_; (repeat (first | with_reducible refine Blk.drew ?_ | with_reducible refine Blk.past ?_ _ | with_reducible refine Blk.far3 ?_ (by omega) _)); first | with_reducible exact HE5.out.2 | with_reducible exact HE4.out.2.1 | with_reducible exact HE3.out.2.1 | with_reducible exact H2.out.2.1))) | ((refine ten_all (t := 26) ?_; (repeat (first | with_reducible refine Blk.drew ?_ | with_reducible refine Blk.past ?_ _ | with_reducible refine Blk.far3 ?_ (by omega) _)); first | with_reducible exact HE5.out.2 | with_reducible exact HE4.out.2.1 | with_reducible exact HE3.out.2.1 | with_reducible exact H2.out.2.1))
        clear hK K hHeldB
        try simp only [Act.put, List.setIfInBounds_toArray, List.set_cons_zero, List.set_cons_succ]
        refine wpAnyH_ready (rs := [5]) (by kernel_rfl) (by simp) ?_
        refine AllReadyH.cons rfl (fun K hK => ?_) AllReadyH.nil
        try simp only [List.getElem_toArray, List.getElem_cons_zero, List.getElem_cons_succ]
        go_simp
        (first
          | (go_at_call 10; refine (HAL.out _ (Below.drew H2.out.1)).mono ?_; rintro e w3 ⟨rfl, hb3⟩; have HE3 : Hid (Below w.heap.size w w3 ∧ Blk w3 w.heap.size 26 #[.int .i64 k, .int .u32 n, .string tg, .int .i64 st, .string tx, .int .i64 it, .int .u8 fl, .int .u32 ui, .int .u32 sz, .slice P bl c] ∧ w.heap.size < w3.heap.size ∧ Bys w3 w3.heap.size pv l) := Lib.hid ⟨below_call (Below.drew H2.out.1) hb3, Blk.below H2.out.2.1.drewd hb3 hz2, Nat.lt_of_lt_of_le hz2 hb3.size, (H2.out.2.2.2.drew.below hb3).more hb3.size⟩; clear hb3; have hcnv : (convert 24 9 (.slice pv l.length cv)).run Tryd.prog w3 = .ok (.string (ofL l)) w3 := conv_bys HE3.out.2.2.2 cv Tryd.underlying24 Tryd.underlying5 Tryd.underlying9)
          | (go_at_call 14; refine (HFO.out _ HE3.out.1).mono ?_; rintro e w4 ⟨rfl, hb4⟩; have HE4 : Hid (Below w.heap.size w w4 ∧ Blk w4 w.heap.size 26 #[.int .i64 k, .int .u32 n, .string tg, .int .i64 st, .string tx, .int .i64 it, .int .u8 fl, .int .u32 ui, .int .u32 sz, .slice P bl c] ∧ w.heap.size < w4.heap.size ∧ Bys w4 w4.heap.size pv l) := Lib.hid ⟨below_call HE3.out.1 hb4, Blk.below HE3.out.2.1 hb4 HE3.out.2.2.1, Nat.lt_of_lt_of_le HE3.out.2.2.1 hb4.size, (HE3.out.2.2.2.below hb4).more hb4.size⟩; clear hb4 hcnv; have hcnv : (convert 24 9 (.slice pv l.length cv)).run Tryd.prog w4 = .ok (.string (ofL l)) w4 := conv_bys HE4.out.2.2.2 cv Tryd.underlying24 Tryd.underlying5 Tryd.underlying9)
          | (go_at_call 13; refine (HV.out _ HE4.out.1).mono ?_; rintro e w5 ⟨rfl, hb5⟩; have HE5 : Hid (Below w.heap.size w w5 ∧ Blk w5 w.heap.size 26 #[.int .i64 k, .int .u32 n, .string tg, .int .i64 st, .string tx, .int .i64 it, .int .u8 fl, .int .u32 ui, .int .u32 sz, .slice P bl c]) := Lib.hid ⟨below_call HE4.out.1 hb5, Blk.below HE4.out.2.1 hb5 HE4.out.2.2.1⟩; clear hb5 hcnv))
        first | (with_reducible refine hK.out _ _ ?_ (fun hHeldB => ?_)) | (go_wp2_with fail; refine hK.out _ _ ?_ (fun hHeldB => ?_))
        · first | (dsimp only; ((refine ten_all (t := 26) ?_; (repeat (first | with_reducible refine Blk.drew ?_ | with_reducible refine Blk.past ?_ _ | with_reducible refine Blk.far3 ?_ (by omega) _)); first | with_reducible exact HE5.out.2 | with_reducible exact HE4.out.2.1 | with_reducible exact HE3.out.2.1 | with_reducible exact H2.out.2.1))) | ((refine ten_all (t := 26) ?_; (repeat (first | with_reducible refine Blk.drew ?_ | with_reducible refine Blk.past ?_ _ | with_reducible refine Blk.far3 ?_ (by omega) _)); first | with_reducible exact HE5.out.2 | with_reducible exact HE4.out.2.1 | with_reducible exact HE3.out.2.1 | with_reducible exact H2.out.2.1))
        clear hK K hHeldA
        try simp only [Act.put, List.setIfInBounds_toArray, List.set_cons_zero, List.set_cons_succ]
        refine wpAnyH_take (i := 6) (v := ?_) rfl (by kernel_rfl) (by kernel_rfl) (by kernel_rfl) (fun _ _ _ h => h) (Or.inl ⟨by rfl, ?_⟩) (by assumption) ?_
        rotate_left
        · intro w hSw
          try dsimp only at hSw
          go_simp
          try with_reducible rfl
        try simp only [List.getElem_toArray, List.getElem_cons_zero, List.getElem_cons_succ, Act.put, List.setIfInBounds_toArray, List.set_cons_zero, List.set_cons_succ]
        refine wpAnyH_take (i := 7) (v := ?_) rfl (by kernel_rfl) (by kernel_rfl) (by kernel_rfl) (fun _ _ _ h => h) (Or.inl ⟨by rfl, ?_⟩) (by assumption) ?_
        rotate_left
        · intro w hSw
          try dsimp only at hSw
          go_simp
          try with_reducible rfl
        try simp only [List.getElem_toArray, List.getElem_cons_zero, List.getElem_cons_succ, Act.put, List.setIfInBounds_toArray, List.set_cons_zero, List.set_cons_succ]
        refine wpAnyH_take (i := 8) (v := ?_) rfl (by kernel_rfl) (by kernel_rfl) (by kernel_rfl) (fun _ _ _ h => h) (Or.inl ⟨by rfl, ?_⟩) (by assumption) ?_
        rotate_left
        · intro w hSw
          try dsimp only at hSw
          go_simp
          try with_reducible rfl
        try simp only [List.getElem_toArray, List.getElem_cons_zero, List.getElem_cons_succ, Act.put, List.setIfInBounds_toArray, List.set_cons_zero, List.set_cons_succ]
        refine wpAnyH_take (i := 9) (v := ?_) rfl (by kernel_rfl) (by kernel_rfl) (by kernel_rfl) (fun _ _ _ h => h) (Or.inl ⟨by rfl, ?_⟩) (by assumption) ?_
        rotate_left
        · intro w hSw
          try dsimp only at hSw
          go_simp
          try with_reducible rfl
        try simp only [List.getElem_toArray, List.getElem_cons_zero, List.getElem_cons_succ, Act.put, List.setIfInBounds_toArray, List.set_cons_zero, List.set_cons_succ]
        refine wpAnyH_take (i := 10) (v := ?_) rfl (by kernel_rfl) (by kernel_rfl) (by kernel_rfl) (fun _ _ _ h => h) (Or.inl ⟨by rfl, ?_⟩) (by assumption) ?_
        rotate_left
        · intro w hSw
          try dsimp only at hSw
          go_simp
          try with_reducible rfl
        try simp only [List.getElem_toArray, List.getElem_cons_zero, List.getElem_cons_succ, Act.put, List.setIfInBounds_toArray, List.set_cons_zero, List.set_cons_succ]
        refine wpAnyH_take (i := 11) (v := ?_) rfl (by kernel_rfl) (by kernel_rfl) (by kernel_rfl) (fun _ _ _ h => h) (Or.inl ⟨by rfl, ?_⟩) (by assumption) ?_
        rotate_left
        · intro w hSw
          try dsimp only at hSw
          go_simp
          try with_reducible rfl
        try simp only [List.getElem_toArray, List.getElem_cons_zero, List.getElem_cons_succ, Act.put, List.setIfInBounds_toArray, List.set_cons_zero, List.set_cons_succ]
        refine wpAnyH_take (i := 12) (v := ?_) rfl (by kernel_rfl) (by kernel_rfl) (by kernel_rfl) (fun _ _ _ h => h) (Or.inl ⟨by rfl, ?_⟩) (by assumption) ?_
        rotate_left
        · intro w hSw
          try dsimp only at hSw
          go_simp
          try with_reducible rfl
        try simp only [List.getElem_toArray, List.getElem_cons_zero, List.getElem_cons_succ, Act.put, List.setIfInBounds_toArray, List.set_cons_zero, List.set_cons_succ]
        refine wpAnyH_ready (rs := [13]) (by kernel_rfl) (by simp) ?_
        refine AllReadyH.cons rfl (fun K hK => ?_) AllReadyH.nil
        try simp only [List.getElem_toArray, List.getElem_cons_zero, List.getElem_cons_succ]
        go_simp
        (first
          | (go_at_call 10; refine (HAL.out _ (Below.drew H2.out.1)).mono ?_; rintro e w3 ⟨rfl, hb3⟩; have HE3 : Hid (Below w.heap.size w w3 ∧ Blk w3 w.heap.size 26 #[.int .i64 k, .int .u32 n, .string tg, .int .i64 st, .string tx, .int .i64 it, .int .u8 fl, .int .u32 ui, .int .u32 sz, .slice P bl c] ∧ w.heap.size < w3.heap.size ∧ Bys w3 w3.heap.size pv l) := Lib.hid ⟨below_call (Below.drew H2.out.1) hb3, Blk.below H2.out.2.1.drewd hb3 hz2, Nat.lt_of_lt_of_le hz2 hb3.size, (H2.out.2.2.2.drew.below hb3).more hb3.size⟩; clear hb3; have hcnv : (convert 24 9 (.slice pv l.length cv)).run Tryd.prog w3 = .ok (.string (ofL l)) w3 := conv_bys HE3.out.2.2.2 cv Tryd.underlying24 Tryd.underlying5 Tryd.underlying9)
          | (go_at_call 14; refine (HFO.out _ HE3.out.1).mono ?_; rintro e w4 ⟨rfl, hb4⟩; have HE4 : Hid (Below w.heap.size w w4 ∧ Blk w4 w.heap.size 26 #[.int .i64 k, .int .u32 n, .string tg, .int .i64 st, .string tx, .int .i64 it, .int .u8 fl, .int .u32 ui, .int .u32 sz, .slice P bl c] ∧ w.heap.size < w4.heap.size ∧ Bys w4 w4.heap.size pv l) := Lib.hid ⟨below_call HE3.out.1 hb4, Blk.below HE3.out.2.1 hb4 HE3.out.2.2.1, Nat.lt_of_lt_of_le HE3.out.2.2.1 hb4.size, (HE3.out.2.2.2.below hb4).more hb4.size⟩; clear hb4 hcnv; have hcnv : (convert 24 9 (.slice pv l.length cv)).run Tryd.prog w4 = .ok (.string (ofL l)) w4 := conv_bys HE4.out.2.2.2 cv Tryd.underlying24 Tryd.underlying5 Tryd.underlying9)
          | (go_at_call 13; refine (HV.out _ HE4.out.1).mono ?_; rintro e w5 ⟨rfl, hb5⟩; have HE5 : Hid (Below w.heap.size w w5 ∧ Blk w5 w.heap.size 26 #[.int .i64 k, .int .u32 n, .string tg, .int .i64 st, .string tx, .int .i64 it, .int .u8 fl, .int .u32 ui, .int .u32 sz, .slice P bl c]) := Lib.hid ⟨below_call HE4.out.1 hb5, Blk.below HE4.out.2.1 hb5 HE4.out.2.2.1⟩; clear hb5 hcnv))
        first | (with_reducible refine hK.out _ _ ?_ (fun hHeldA => ?_)) | (go_wp2_with fail; refine hK.out _ _ ?_ (fun hHeldA => ?_))
        · first | (dsimp only; ((refine ten_all (t := 26) ?_; (repeat (first | with_reducible refine Blk.drew ?_ | with_reducible refine Blk.past ?_ _ | with_reducible refine Blk.far3 ?_ (by omega) _)); first | with_reducible exact HE5.out.2 | with_reducible exact HE4.out.2.1 | with_reducible exact HE3.out.2.1 | with_reducible exact H2.out.2.1))) | ((refine ten_all (t := 26) ?_; (repeat (first | with_reducible refine Blk.drew ?_ | with_reducible refine Blk.past ?_ _ | with_reducible refine Blk.far3 ?_ (by omega) _)); first | with_reducible exact HE5.out.2 | with_reducible exact HE4.out.2.1 | with_reducible exact HE3.out.2.1 | with_reducible exact H2.out.2.1))
        clear hK K hHeldB
        try simp only [Act.put, List.setIfInBounds_toArray, List.set_cons_zero, List.set_cons_succ]
        refine wpAnyH_take (i := 14) (v := ?_) rfl (by kernel_rfl) (by kernel_rfl) (by kernel_rfl) (fun _ _ _ h => h) (Or.inl ⟨by rfl, ?_⟩) (by assumption) ?_
        rotate_left
        · intro w hSw
          try dsimp only at hSw
          go_simp
          try with_reducible rfl
        try simp only [List.getElem_toArray, List.getElem_cons_zero, List.getElem_cons_succ, Act.put, List.setIfInBounds_toArray, List.set_cons_zero, List.set_cons_succ]
        refine wpAnyH_take (i := 15) (v := ?_) rfl (by kernel_rfl) (by kernel_rfl) (by kernel_rfl) (fun _ _ _ h => h) (Or.inl ⟨by rfl, ?_⟩) (by assumption) ?_
        rotate_left
        · intro w hSw
          try dsimp only at hSw
          go_simp
          try with_reducible rfl
        try simp only [List.getElem_toArray, List.getElem_cons_zero, List.getElem_cons_succ, Act.put, List.setIfInBounds_toArray, List.set_cons_zero, List.set_cons_succ]
        refine wpAnyH_done (by kernel_rfl) ?_ _
        refine NoPanic.normal ?_
      case' w1x5 =>
        try simp only [List.getElem_toArray, List.getElem_cons_zero, List.getElem_cons_succ]
        go_simp
        (first
          | (go_at_call 10; refine (HAL.out _ (Below.drew H2.out.1)).mono ?_; rintro e w3 ⟨rfl, hb3⟩; have HE3 : Hid (Below w.heap.size w w3 ∧ Blk w3 w.heap.size 26 #[.int .i64 k, .int .u32 n, .string tg, .int .i64 st, .string tx, .int .i64 it, .int .u8 fl, .int .u32 ui, .int .u32 sz, .slice P bl c] ∧ w.heap.size < w3.heap.size ∧ Bys w3 w3.heap.size pv l) := Lib.hid ⟨below_call (Below.drew H2.out.1) hb3, Blk.below H2.out.2.1.drewd hb3 hz2, Nat.lt_of_lt_of_le hz2 hb3.size, (H2.out.2.2.2.drew.below hb3).more hb3.size⟩; clear hb3; have hcnv : (convert 24 9 (.slice pv l.length cv)).run Tryd.prog w3 = .ok (.string (ofL l)) w3 := conv_bys HE3.out.2.2.2 cv Tryd.underlying24 Tryd.underlying5 Tryd.underlying9)
          | (go_at_call 14; refine (HFO.out _ HE3.out.1).mono ?_; rintro e w4 ⟨rfl, hb4⟩; have HE4 : Hid (Below w.heap.size w w4 ∧ Blk w4 w.heap.size 26 #[.int .i64 k, .int .u32 n, .string tg, .int .i64 st, .string tx, .int .i64 it, .int .u8 fl, .int .u32 ui, .int .u32 sz, .slice P bl c] ∧ w.heap.size < w4.heap.size ∧ Bys w4 w4.heap.size pv l) := Lib.hid ⟨below_call HE3.out.1 hb4, Blk.below HE3.out.2.1 hb4 HE3.out.2.2.1, Nat.lt_of_lt_of_le HE3.out.2.2.1 hb4.size, (HE3.out.2.2.2.below hb4).more hb4.size⟩; clear hb4 hcnv; have hcnv : (convert 24 9 (.slice pv l.length cv)).run Tryd.prog w4 = .ok (.string (ofL l)) w4 := conv_bys HE4.out.2.2.2 cv Tryd.underlying24 Tryd.underlying5 Tryd.underlying9)
          | (go_at_call 13; refine (HV.out _ HE4.out.1).mono ?_; rintro e w5 ⟨rfl, hb5⟩; have HE5 : Hid (Below w.heap.size w w5 ∧ Blk w5 w.heap.size 26 #[.int .i64 k, .int .u32 n, .string tg, .int .i64 st, .string tx, .int .i64 it, .int .u8 fl, .int .u32 ui, .int .u32 sz, .slice P bl c]) := Lib.hid ⟨below_call HE4.out.1 hb5, Blk.below HE4.out.2.1 hb5 HE4.out.2.2.1⟩; clear hb5 hcnv))
        first | (with_reducible refine hK.out _ _ ?_ (fun hHeldA => ?_)) | (go_wp2_with fail; refine hK.out _ _ ?_ (fun hHeldA => ?_))
        · first | (dsimp only; ((refine ten_all (t := 26) ?_; (repeat (first | with_reducible refine Blk.drew ?_ | with_reducible refine Blk.past ?_ _ | with_reducible refine Blk.far3 ?_ (by omega) _)); first | with_reducible exact HE5.out.2 | with_reducible exact HE4.out.2.1 | with_reducible exact HE3.out.2.1 | with_reducible exact H2.out.2.1))) | ((refine ten_all (t := 26) ?_; (repeat (first | with_reducible refine Blk.drew ?_ | with_reducible refine Blk.past ?_ _ | with_reducible refine Blk.far3 ?_ (by omega) _)); first | with_reducible exact HE5.out.2 | with_reducible exact HE4.out.2.1 | with_reducible exact HE3.out.2.1 | with_reducible exact H2.out.2.1))
        clear hK K hHeldB
        try simp only [Act.put, List.setIfInBounds_toArray, List.set_cons_zero, List.set_cons_succ]
        refine wpAnyH_ready (rs := [3]) (by kernel_rfl) (by simp) ?_
        refine AllReadyH.cons rfl (fun K hK => ?_) AllReadyH.nil
        try simp only [List.getElem_toArray, List.getElem_cons_zero, List.getElem_cons_succ]
        go_simp
        first | (with_reducible refine hK.out _ _ ?_ (fun hHeldB => ?_)) | (go_wp2_with fail; refine hK.out _ _ ?_ (fun hHeldB => ?_))
        · first | (dsimp only; ((refine ten_all (t := 26) ?_; (repeat (first | with_reducible refine Blk.drew ?_ | with_reducible refine Blk.past ?_ _ | with_reducible refine Blk.far3 ?_ (by omega) _)); first | with_reducible exact HE5.out.2 | with_reducible exact HE4.out.2.1 | with_reducible exact HE3.out.2.1 | with_reducible exact H2.out.2.1))) | ((refine ten_all (t := 26) ?_; (repeat (first | with_reducible refine Blk.drew ?_ | with_reducible refine Blk.past ?_ _ | with_reducible refine Blk.far3 ?_ (by omega) _)); first | with_reducible exact HE5.out.2 | with_reducible exact HE4.out.2.1 | with_reducible exact HE3.out.2.1 | with_reducible exact H2.out.2.1))
        clear hK K hHeldA
        try simp only [Act.put, List.setIfInBounds_toArray, List.set_cons_zero, List.set_cons_succ]
        refine wpAnyH_take (i := 6) (v := ?_) rfl (by kernel_rfl) (by kernel_rfl) (by kernel_rfl) (fun _ _ _ h => h) (Or.inl ⟨by rfl, ?_⟩) (by assumption) ?_
        rotate_left
        · intro w hSw
          try dsimp only at hSw
          go_simp
          try with_reducible rfl
        try simp only [List.getElem_toArray, List.getElem_cons_zero, List.getElem_cons_succ, Act.put, List.setIfInBounds_toArray, List.set_cons_zero, List.set_cons_succ]
        refine wpAnyH_take (i := 7) (v := ?_) rfl (by kernel_rfl) (by kernel_rfl) (by kernel_rfl) (fun _ _ _ h => h) (Or.inl ⟨by rfl, ?_⟩) (by assumption) ?_
        rotate_left
        · intro w hSw
          try dsimp only at hSw
          go_simp
          try with_reducible rfl
        try simp only [List.getElem_toArray, List.getElem_cons_zero, List.getElem_cons_succ, Act.put, List.setIfInBounds_toArray, List.set_cons_zero, List.set_cons_succ]
        refine wpAnyH_take (i := 8) (v := ?_) rfl (by kernel_rfl) (by kernel_rfl) (by kernel_rfl) (fun _ _ _ h => h) (Or.inl ⟨by rfl, ?_⟩) (by assumption) ?_
        rotate_left
        · intro w hSw
          try dsimp only at hSw
          go_simp
          try with_reducible rfl
        try simp only [List.getElem_toArray, List.getElem_cons_zero, List.getElem_cons_succ, Act.put, List.setIfInBounds_toArray, List.set_cons_zero, List.set_cons_succ]
        refine wpAnyH_take (i := 9) (v := ?_) rfl (by kernel_rfl) (by kernel_rfl) (by kernel_rfl) (fun _ _ _ h => h) (Or.inl ⟨by rfl, ?_⟩) (by assumption) ?_
        rotate_left
        · intro w hSw
          try dsimp only at hSw
          go_simp
          try with_reducible rfl
        try simp only [List.getElem_toArray, List.getElem_cons_zero, List.getElem_cons_succ, Act.put, List.setIfInBounds_toArray, List.set_cons_zero, List.set_cons_succ]
        refine wpAnyH_take (i := 10) (v := ?_) rfl (by kernel_rfl) (by kernel_rfl) (by kernel_rfl) (fun _ _ _ h => h) (Or.inl ⟨by rfl, ?_⟩) (by assumption) ?_
        rotate_left
        · intro w hSw
          try dsimp only at hSw
          go_simp
          try with_reducible rfl
        try simp only [List.getElem_toArray, List.getElem_cons_zero, List.getElem_cons_succ, Act.put, List.setIfInBounds_toArray, List.set_cons_zero, List.set_cons_succ]
        refine wpAnyH_take (i := 11) (v := ?_) rfl (by kernel_rfl) (by kernel_rfl) (by kernel_rfl) (fun _ _ _ h => h) (Or.inl ⟨by rfl, ?_⟩) (by assumption) ?_
        rotate_left
        · intro w hSw
          try dsimp only at hSw
          go_simp
          try with_reducible rfl
        try simp only [List.getElem_toArray, List.getElem_cons_zero, List.getElem_cons_succ, Act.put, List.setIfInBounds_toArray, List.set_cons_zero, List.set_cons_succ]
        refine wpAnyH_take (i := 12) (v := ?_) rfl (by kernel_rfl) (by kernel_rfl) (by kernel_rfl) (fun _ _ _ h => h) (Or.inl ⟨by rfl, ?_⟩) (by assumption) ?_
        rotate_left
        · intro w hSw
          try dsimp only at hSw
          go_simp
          try with_reducible rfl
        try simp only [List.getElem_toArray, List.getElem_cons_zero, List.getElem_cons_succ, Act.put, List.setIfInBounds_toArray, List.set_cons_zero, List.set_cons_succ]
        refine wpAnyH_ready (rs := [13]) (by kernel_rfl) (by simp) ?_
        refine AllReadyH.cons rfl (fun K hK => ?_) AllReadyH.nil
        try simp only [List.getElem_toArray, List.getElem_cons_zero, List.getElem_cons_succ]
        go_simp
        (first
          | (go_at_call 10; refine (HAL.out _ (Below.drew H2.out.1)).mono ?_; rintro e w3 ⟨rfl, hb3⟩; have HE3 : Hid (Below w.heap.size w w3 ∧ Blk w3 w.heap.size 26 #[.int .i64 k, .int .u32 n, .string tg, .int .i64 st, .string tx, .int .i64 it, .int .u8 fl, .int .u32 ui, .int .u32 sz, .slice P bl c] ∧ w.heap.size < w3.heap.size ∧ Bys w3 w3.heap.size pv l) := Lib.hid ⟨below_call (Below.drew H2.out.1) hb3, Blk.below H2.out.2.1.drewd hb3 hz2, Nat.lt_of_lt_of_le hz2 hb3.size, (H2.out.2.2.2.drew.below hb3).more hb3.size⟩; clear hb3; have hcnv : (convert 24 9 (.slice pv l.length cv)).run Tryd.prog w3 = .ok (.string (ofL l)) w3 := conv_bys HE3.out.2.2.2 cv Tryd.underlying24 Tryd.underlying5 Tryd.underlying9)
          | (go_at_call 14; refine (HFO.out _ HE3.out.1).mono ?_; rintro e w4 ⟨rfl, hb4⟩; have HE4 : Hid (Below w.heap.size w w4 ∧ Blk w4 w.heap.size 26 #[.int .i64 k, .int .u32 n, .string tg, .int .i64 st, .string tx, .int .i64 it, .int .u8 fl, .int .u32 ui, .int .u32 sz, .slice P bl c] ∧ w.heap.size < w4.heap.size ∧ Bys w4 w4.heap.size pv l) := Lib.hid ⟨below_call HE3.out.1 hb4, Blk.below HE3.out.2.1 hb4 HE3.out.2.2.1, Nat.lt_of_lt_of_le HE3.out.2.2.1 hb4.size, (HE3.out.2.2.2.below hb4).more hb4.size⟩; clear hb4 hcnv; have hcnv : (convert 24 9 (.slice pv l.length cv)).run Tryd.prog w4 = .ok (.string (ofL l)) w4 := conv_bys HE4.out.2.2.2 cv Tryd.underlying24 Tryd.underlying5 Tryd.underlying9)
          | (go_at_call 13; refine (HV.out _ HE4.out.1).mono ?_; rintro e w5 ⟨rfl, hb5⟩; have HE5 : Hid (Below w.heap.size w w5 ∧ Blk w5 w.heap.size 26 #[.int .i64 k, .int .u32 n, .string tg, .int .i64 st, .string tx, .int .i64 it, .int .u8 fl, .int .u32 ui, .int .u32 sz, .slice P bl c]) := Lib.hid ⟨below_call HE4.out.1 hb5, Blk.below HE4.out.2.1 hb5 HE4.out.2.2.1⟩; clear hb5 hcnv))
        first | (with_reducible refine hK.out _ _ ?_ (fun hHeldA => ?_)) | (go_wp2_with fail; refine hK.out _ _ ?_ (fun hHeldA => ?_))
        · first | (dsimp only; ((refine ten_all (t := 26) ?_; (repeat (first | with_reducible refine Blk.drew ?_ | with_reducible refine Blk.past ?_ _ | with_reducible refine Blk.far3 ?_ (by omega) _)); first | with_reducible exact HE5.out.2 | with_reducible exact HE4.out.2.1 | with_reducible exact HE3.out.2.1 | with_reducible exact H2.out.2.1))) | ((refine ten_all (t := 26) ?_; (repeat (first | with_reducible refine Blk.drew ?_ | with_reducible refine Blk.past ?_ _ | with_reducible refine Blk.far3 ?_ (by omega) _)); first | with_reducible exact HE5.out.2 | with_reducible exact HE4.out.2.1 | with_reducible exact HE3.out.2.1 | with_reducible exact H2.out.2.1))
        clear hK K hHeldB
        try simp only [Act.put, List.setIfInBounds_toArray, List.set_cons_zero, List.set_cons_succ]
        refine wpAnyH_take (i := 14) (v := ?_) rfl (by kernel_rfl) (by kernel_rfl) (by kernel_rfl) (fun _ _ _ h => h) (Or.inl ⟨by rfl, ?_⟩) (by assumption) ?_
        rotate_left
        · intro w hSw
          try dsimp only at hSw
          go_simp
          try with_reducible rfl
        try simp only [List.getElem_toArray, List.getElem_cons_zero, List.getElem_cons_succ, Act.put, List.setIfInBounds_toArray, List.set_cons_zero, List.set_cons_succ]
        refine wpAnyH_take (i := 15) (v := ?_) rfl (by kernel_rfl) (by kernel_rfl) (by kernel_rfl) (fun _ _ _ h => h) (Or.inl ⟨by rfl, ?_⟩) (by assumption) ?_
        rotate_left
        · intro w hSw
          try dsimp only at hSw
          go_simp
          try with_reducible rfl
        try simp only [List.getElem_toArray, List.getElem_cons_zero, List.getElem_cons_succ, Act.put, List.setIfInBounds_toArray, List.set_cons_zero, List.set_cons_succ]
        refine wpAnyH_done (by kernel_rfl) ?_ _
        refine NoPanic.normal ?_
      all_goals
        go_wp2_with fail
        go_ret
        exact ⟨rfl, HE5.out.1⟩
end Go.Proofs.YtgdhakkfddmkjaaDoor
