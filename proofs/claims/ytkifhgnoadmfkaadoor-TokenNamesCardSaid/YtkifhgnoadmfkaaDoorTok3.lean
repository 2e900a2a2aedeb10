/- The walk of the reader's method form. -/
import Derived.Test.YtkifhgnoadmfkaaDoorJ5
import Derived.Deep.DeepCutAuto
set_option linter.unusedVariables false
set_option linter.unusedSimpArgs false
namespace Go.Proofs.YtkifhgnoadmfkaaDoor
open Go.RowKit

/-- What a form's reader leaves. -/
def FormIn (W : World) (m : List UInt8) (j : Nat) (ob : Bool) (e : Ending) (w' : World) : Prop :=
  ∃ p c, e = .returned (.tuple #[.slice p m.length c, .int .i64 (j : Nat), .bool ob]) ∧ Buf w' W.heap.size 1 (.slice p m.length c) m.length (Lib.byteCells m) ∧ Below W.heap.size W w'
set_option maxRecDepth 100000 in
set_option maxHeartbeats 3200000 in
theorem form_any (f : FuncId) (kind : Nat) (g : Nat) (P : Option Addr) (n c : Nat) (k : Nat) (w : World) (r : Option (List UInt8 × Nat)) (h : RdSt w g P n c k) (hk : k ≤ 1048576) (hf : ∀ args w, (callFunc f args).run Tryd.prog w = .ok (.enter f args) w)
    (H : ∀ W, Below w.heap.size w W → Calls Tryd.prog f #[.slice P n c, .int .i64 k] W (RetS W r)) :
    Calls Tryd.prog 60 #[.pointer (some ⟨g, 0, none⟩), .int .i64 kind, .func (.func f) #[] #[]] w (RdPost w g P n c kind (rdM r) 0 r.isSome (if r.isSome then (rdJ r : Int) else (k : Int))) := by
  obtain ⟨c0, c1, f1, hlt⟩ := h.cells
  have HC := Lib.hid h
  have H' : ∀ W, Below w.heap.size w W → Calls Tryd.prog f #[.slice P n c, .int .i64 k] W (FormIn W (rdM r) (rdJ r) r.isSome) := fun W hW => (H W hW).mono (by
    rintro e w1 hr
    obtain ⟨p1, c1, rfl, hbuf, hy, hb⟩ := hr.parts
    exact ⟨p1, c1, rfl, hbuf, hb⟩)
  generalize rdM r = m at H' ⊢
  generalize rdJ r = j at H' ⊢
  generalize r.isSome = ob at H' ⊢
  generalize hkf : (if ob = true then (j : Int) else (k : Int)) = kf
  have HK := Lib.hid hkf
  have HH := Lib.hid H'
  have hne : w.heap.size ≠ g := by omega
  clear h H H' hkf
  go_enter Tryd.func60, Tryd.ntmps60
  go_upto_region 1 with fail
  go_cut [8, 9, 10] (fun s8 s9 s10 wx => ∃ (p1 : Option Addr) (q1 : Nat), s8 = .slice p1 m.length q1 ∧ s9 = .int .i64 (j : Nat) ∧ s10 = .bool ob ∧ Buf wx (w.heap.size + 1) 1 (.slice p1 m.length q1) m.length (Lib.byteCells m) ∧ Below (w.heap.size + 1) (w.alloc (.cells #[.int .i64 0, .string ⟨#[]⟩, .int .i64 0] 36)) wx)
  case first =>
    have HB : Hid (Below w.heap.size w (w.alloc (.cells #[.int .i64 0, .string ⟨#[]⟩, .int .i64 0] 36)).drew) := Lib.hid (Below.drew ((Below.refl _ _).alloc (Nat.le_refl _) _))
    refine wp_region_any (by kernel_rfl) ?_
    change wpAny _ _ _ _ _ _ _ (World.drew _)
    refine wpAny_take (i := 0) (v := ?_) rfl (by kernel_rfl) (by kernel_rfl) (by kernel_rfl) (fun _ _ _ h => h) (Or.inl ⟨by rfl, ?_⟩) ?_
    rotate_left
    · intro w; go_simp
      try with_reducible rfl
    simp only [List.getElem_toArray, List.getElem_cons_zero, List.getElem_cons_succ, Act.put, List.setIfInBounds_toArray, List.set_cons_zero, List.set_cons_succ]
    refine wpAny_take (i := 1) (v := ?_) rfl (by kernel_rfl) (by kernel_rfl) (by kernel_rfl) (fun _ _ _ h => h) (Or.inl ⟨by rfl, ?_⟩) ?_
    rotate_left
    · intro w; go_simp
      try with_reducible rfl
    simp only [List.getElem_toArray, List.getElem_cons_zero, List.getElem_cons_succ, Act.put, List.setIfInBounds_toArray, List.set_cons_zero, List.set_cons_succ]
    refine wpAny_take (i := 2) (v := ?_) rfl (by kernel_rfl) (by kernel_rfl) (by kernel_rfl) (fun _ _ _ h => h) (Or.inl ⟨by rfl, ?_⟩) ?_
    rotate_left
    · intro w; go_simp
      try with_reducible rfl
    simp only [List.getElem_toArray, List.getElem_cons_zero, List.getElem_cons_succ, Act.put, List.setIfInBounds_toArray, List.set_cons_zero, List.set_cons_succ]
    refine wpAny_take (i := 3) (v := ?_) rfl (by kernel_rfl) (by kernel_rfl) (by kernel_rfl) (fun _ _ _ h => h) (Or.inl ⟨by rfl, ?_⟩) ?_
    rotate_left
    · intro w; go_simp
      try with_reducible rfl
    simp only [List.getElem_toArray, List.getElem_cons_zero, List.getElem_cons_succ, Act.put, List.setIfInBounds_toArray, List.set_cons_zero, List.set_cons_succ]
    refine wpAny_take (i := 5) (v := ?_) rfl (by kernel_rfl) (by kernel_rfl) (by kernel_rfl) (fun _ _ _ h => h) (Or.inl ⟨by rfl, ?_⟩) ?_
    rotate_left
    · intro w; go_simp
      try with_reducible rfl
    simp only [List.getElem_toArray, List.getElem_cons_zero, List.getElem_cons_succ, Act.put, List.setIfInBounds_toArray, List.set_cons_zero, List.set_cons_succ]
    refine wpAny_take (i := 6) (v := ?_) rfl (by kernel_rfl) (by kernel_rfl) (by kernel_rfl) (fun _ _ _ h => h) (Or.inl ⟨by rfl, ?_⟩) ?_
    rotate_left
    · intro w; go_simp
      try with_reducible rfl
    simp only [List.getElem_toArray, List.getElem_cons_zero, List.getElem_cons_succ, Act.put, List.setIfInBounds_toArray, List.set_cons_zero, List.set_cons_succ]
    refine wpAny_take (i := 7) (v := ?_) rfl (by kernel_rfl) (by kernel_rfl) (by kernel_rfl) (fun _ _ _ h => h) (Or.inl ⟨by rfl, ?_⟩) ?_
    rotate_left
    · intro w; go_simp
      try with_reducible rfl
    simp only [List.getElem_toArray, List.getElem_cons_zero, List.getElem_cons_succ, Act.put, List.setIfInBounds_toArray, List.set_cons_zero, List.set_cons_succ]
    refine wpAny_ready (rs := [4, 8]) (by kernel_rfl) (by simp) ?_
    refine AllReady.cons rfl (fun K hK => ?_) (AllReady.cons rfl (fun K hK => ?_) AllReady.nil)
    · go_simp
      refine hK _ _ ?_
      clear hK K
      refine wpAny_ready (rs := [8]) (by kernel_rfl) (by simp) ?_
      refine AllReady.cons rfl (fun K hK => ?_) AllReady.nil
      go_simp
      refine hK _ _ ?_
      clear hK K
      refine wpAny_ready (rs := [9]) (by kernel_rfl) (by simp) ?_
      refine AllReady.cons rfl (fun K hK => ?_) AllReady.nil
      go_simp
      go_wp2_with fail
      refine (HH.out _ ?_).mono ?_
      · exact HB.out
      rintro e w1 hr
      obtain ⟨p1, c1, rfl, hbuf, hb⟩ := hr
      have H1 := Lib.hid (And.intro (hbuf.mono (base' := w.heap.size + 1) (by simp)) ((Below.drew (Below.refl (w.heap.size + 1) _)).trans (hb.mono (by simp))))
      clear hbuf hb
      go_wp2_with fail
      refine wpAny_take (i := 10) (v := ?_) rfl (by kernel_rfl) (by kernel_rfl) (by kernel_rfl) (fun _ _ _ h => h) (Or.inl ⟨by rfl, ?_⟩) ?_
      rotate_left
      · intro w; go_simp
        try with_reducible rfl
      simp only [List.getElem_toArray, List.getElem_cons_zero, List.getElem_cons_succ, Act.put, List.setIfInBounds_toArray, List.set_cons_zero, List.set_cons_succ]
      refine wpAny_take (i := 11) (v := ?_) rfl (by kernel_rfl) (by kernel_rfl) (by kernel_rfl) (fun _ _ _ h => h) (Or.inl ⟨by rfl, ?_⟩) ?_
      rotate_left
      · intro w; go_simp
        try with_reducible rfl
      simp only [List.getElem_toArray, List.getElem_cons_zero, List.getElem_cons_succ, Act.put, List.setIfInBounds_toArray, List.set_cons_zero, List.set_cons_succ]
      refine wpAny_take (i := 12) (v := ?_) rfl (by kernel_rfl) (by kernel_rfl) (by kernel_rfl) (fun _ _ _ h => h) (Or.inl ⟨by rfl, ?_⟩) ?_
      rotate_left
      · intro w; go_simp
        try with_reducible rfl
      simp only [List.getElem_toArray, List.getElem_cons_zero, List.getElem_cons_succ, Act.put, List.setIfInBounds_toArray, List.set_cons_zero, List.set_cons_succ]
      refine wpAny_take (i := 13) (v := ?_) rfl (by kernel_rfl) (by kernel_rfl) (by kernel_rfl) (fun _ _ _ h => h) (Or.inl ⟨by rfl, ?_⟩) ?_
      rotate_left
      · intro w; go_simp
        try with_reducible rfl
      simp only [List.getElem_toArray, List.getElem_cons_zero, List.getElem_cons_succ, Act.put, List.setIfInBounds_toArray, List.set_cons_zero, List.set_cons_succ]
      refine wpAny_take (i := 14) (v := ?_) rfl (by kernel_rfl) (by kernel_rfl) (by kernel_rfl) (fun _ _ _ h => h) (Or.inl ⟨by rfl, ?_⟩) ?_
      rotate_left
      · intro w; go_simp
        try with_reducible rfl
      simp only [List.getElem_toArray, List.getElem_cons_zero, List.getElem_cons_succ, Act.put, List.setIfInBounds_toArray, List.set_cons_zero, List.set_cons_succ]
      refine wpAny_take (i := 15) (v := ?_) rfl (by kernel_rfl) (by kernel_rfl) (by kernel_rfl) (fun _ _ _ h => h) (Or.inl ⟨by rfl, ?_⟩) ?_
      rotate_left
      · intro w; go_simp
        try with_reducible rfl
      simp only [List.getElem_toArray, List.getElem_cons_zero, List.getElem_cons_succ, Act.put, List.setIfInBounds_toArray, List.set_cons_zero, List.set_cons_succ]
      refine wpAny_take (i := 16) (v := ?_) rfl (by kernel_rfl) (by kernel_rfl) (by kernel_rfl) (fun _ _ _ h => h) (Or.inl ⟨by rfl, ?_⟩) ?_
      rotate_left
      · intro w; go_simp
        try with_reducible rfl
      simp only [List.getElem_toArray, List.getElem_cons_zero, List.getElem_cons_succ, Act.put, List.setIfInBounds_toArray, List.set_cons_zero, List.set_cons_succ]
      refine wpAny_done (by kernel_rfl) ?_ _
      go_wp2_with fail
      go_meet
      exact ⟨p1, c1, rfl, rfl, rfl, H1.out⟩
    · go_simp
      refine hK _ _ ?_
      clear hK K
      refine wpAny_ready (rs := [4]) (by kernel_rfl) (by simp) ?_
      refine AllReady.cons rfl (fun K hK => ?_) AllReady.nil
      go_simp
      refine hK _ _ ?_
      clear hK K
      refine wpAny_ready (rs := [9]) (by kernel_rfl) (by simp) ?_
      refine AllReady.cons rfl (fun K hK => ?_) AllReady.nil
      go_simp
      go_wp2_with fail
      refine (HH.out _ ?_).mono ?_
      · exact HB.out
      rintro e w1 hr
      obtain ⟨p1, c1, rfl, hbuf, hb⟩ := hr
      have H1 := Lib.hid (And.intro (hbuf.mono (base' := w.heap.size + 1) (by simp)) ((Below.drew (Below.refl (w.heap.size + 1) _)).trans (hb.mono (by simp))))
      clear hbuf hb
      go_wp2_with fail
      refine wpAny_take (i := 10) (v := ?_) rfl (by kernel_rfl) (by kernel_rfl) (by kernel_rfl) (fun _ _ _ h => h) (Or.inl ⟨by rfl, ?_⟩) ?_
      rotate_left
      · intro w; go_simp
        try with_reducible rfl
      simp only [List.getElem_toArray, List.getElem_cons_zero, List.getElem_cons_succ, Act.put, List.setIfInBounds_toArray, List.set_cons_zero, List.set_cons_succ]
      refine wpAny_take (i := 11) (v := ?_) rfl (by kernel_rfl) (by kernel_rfl) (by kernel_rfl) (fun _ _ _ h => h) (Or.inl ⟨by rfl, ?_⟩) ?_
      rotate_left
      · intro w; go_simp
        try with_reducible rfl
      simp only [List.getElem_toArray, List.getElem_cons_zero, List.getElem_cons_succ, Act.put, List.setIfInBounds_toArray, List.set_cons_zero, List.set_cons_succ]
      refine wpAny_take (i := 12) (v := ?_) rfl (by kernel_rfl) (by kernel_rfl) (by kernel_rfl) (fun _ _ _ h => h) (Or.inl ⟨by rfl, ?_⟩) ?_
      rotate_left
      · intro w; go_simp
        try with_reducible rfl
      simp only [List.getElem_toArray, List.getElem_cons_zero, List.getElem_cons_succ, Act.put, List.setIfInBounds_toArray, List.set_cons_zero, List.set_cons_succ]
      refine wpAny_take (i := 13) (v := ?_) rfl (by kernel_rfl) (by kernel_rfl) (by kernel_rfl) (fun _ _ _ h => h) (Or.inl ⟨by rfl, ?_⟩) ?_
      rotate_left
      · intro w; go_simp
        try with_reducible rfl
      simp only [List.getElem_toArray, List.getElem_cons_zero, List.getElem_cons_succ, Act.put, List.setIfInBounds_toArray, List.set_cons_zero, List.set_cons_succ]
      refine wpAny_take (i := 14) (v := ?_) rfl (by kernel_rfl) (by kernel_rfl) (by kernel_rfl) (fun _ _ _ h => h) (Or.inl ⟨by rfl, ?_⟩) ?_
      rotate_left
      · intro w; go_simp
        try with_reducible rfl
      simp only [List.getElem_toArray, List.getElem_cons_zero, List.getElem_cons_succ, Act.put, List.setIfInBounds_toArray, List.set_cons_zero, List.set_cons_succ]
      refine wpAny_take (i := 15) (v := ?_) rfl (by kernel_rfl) (by kernel_rfl) (by kernel_rfl) (fun _ _ _ h => h) (Or.inl ⟨by rfl, ?_⟩) ?_
      rotate_left
      · intro w; go_simp
        try with_reducible rfl
      simp only [List.getElem_toArray, List.getElem_cons_zero, List.getElem_cons_succ, Act.put, List.setIfInBounds_toArray, List.set_cons_zero, List.set_cons_succ]
      refine wpAny_take (i := 16) (v := ?_) rfl (by kernel_rfl) (by kernel_rfl) (by kernel_rfl) (fun _ _ _ h => h) (Or.inl ⟨by rfl, ?_⟩) ?_
      rotate_left
      · intro w; go_simp
        try with_reducible rfl
      simp only [List.getElem_toArray, List.getElem_cons_zero, List.getElem_cons_succ, Act.put, List.setIfInBounds_toArray, List.set_cons_zero, List.set_cons_succ]
      refine wpAny_done (by kernel_rfl) ?_ _
      go_wp2_with fail
      go_meet
      exact ⟨p1, c1, rfl, rfl, rfl, H1.out⟩
  case rest =>
    obtain ⟨p1, q1, rfl, rfl, rfl, hbuf, hb⟩ := hcut
    have hbg : Below w.heap.size w wc := ((Below.refl _ _).alloc (Nat.le_refl _) _).trans (hb.mono (Nat.le_succ _))
    have hr1 := HC.out.below hbg
    have hbk : Blk wc w.heap.size 36 #[.int .i64 0, .string ⟨#[]⟩, .int .i64 0] := (Blk.made w _ _).below hb (Nat.lt_succ_self _)
    obtain ⟨e0, e1, g1, _⟩ := hr1.cells
    have d0 : wc.cell? ⟨w.heap.size, 0, none⟩ = some (.int .i64 0) := by rw [hbk.cell]; rfl
    have d1 : wc.cell? ⟨w.heap.size, 1, none⟩ = some (.string ⟨#[]⟩) := by rw [hbk.cell]; rfl
    have d2 : wc.cell? ⟨w.heap.size, 2, none⟩ = some (.int .i64 0) := by rw [hbk.cell]; rfl
    have f0 := hbk.frz 0
    have f3 := hbk.frz 1
    have f2 := hbk.frz 2
    have hng : (Value.slice p1 m.length q1).ownBlock ≠ some g := fun e => by have := hbuf.not_own g e; omega
    have HV : Hid (∀ W : World, Buf W (w.heap.size + 1) 1 (.slice p1 m.length q1) m.length (Lib.byteCells m) → (convert 22 9 (.slice p1 m.length q1)).run Tryd.prog W = .ok (.string ⟨m.toArray⟩) W) := Lib.hid (fun W hW => by
      obtain ⟨p, c, e, _, hy⟩ := hW.bys
      injection e with e1 e2 e3
      subst e1
      exact conv_bys (P := Tryd.prog) hy q1 Tryd.underlying22 Tryd.underlying5 Tryd.underlying9)
    have HH2 := Lib.hid (And.intro hbuf (And.intro hbg (And.intro hr1 hbk)))
    have HN := Lib.hid hng
    have hgw : g ≠ w.heap.size := by omega
    have hng2 := Lib.hid hb.size
    clear hbuf hb hbg hr1 hbk hng HH hf
    cases ob with
    | true =>
      obtain rfl : (j : Int) = kf := HK.out
      have HCV := Lib.hid (HV.out _ (HH2.out.1.far (p := ⟨g, 1, none⟩) HN.out (.int .i64 (j : Int))))
      have HH3 := Lib.hid (And.intro (HH2.out.2.2.1.move (j : Int)) (Blk.far HH2.out.2.2.2 (p := ⟨g, 1, none⟩) (fun e => hgw e.symm) (.int .i64 (j : Int))))
      generalize m.length = ml at *
      go_wp2_with fail
      rw [HCV.out]
      simp only [Result.andThen]
      rw [Oper.upon_value]
      go_wp2_with fail
      have hput := ((HH3.out.2.put 0 (.int .i64 kind)).put 1 (.string ⟨m.toArray⟩)).put 2 (.int .i64 0)
      have e0 := hput.cell 0
      have e1 := hput.cell 1
      have e2 := hput.cell 2
      refine bodyPost_ret (v := .tuple #[.agg #[.int .i64 kind, .string ⟨m.toArray⟩, .int .i64 0], .bool true]) (by simp [results, Tryd.results60, go_sem, e0, e1, e2]) rfl
        ⟨rfl, ((Blk.far HH3.out.1 (p := ⟨w.heap.size, 0, none⟩) hgw _).far (p := ⟨w.heap.size, 1, none⟩) hgw _).far (p := ⟨w.heap.size, 2, none⟩) hgw _, ?_⟩
      exact grown_new (grown_new (grown_new (grown_trans (grown_of_below HH2.out.2.1 _) (grown_set _ _ _ _)) (Nat.le_refl _) _ _) (Nat.le_refl _) _ _) (Nat.le_refl _) _ _
    | false =>
      obtain rfl : (k : Int) = kf := HK.out
      have HCV := Lib.hid (HV.out _ HH2.out.1)
      generalize m.length = ml at *
      go_wp2_with fail
      rw [HCV.out]
      simp only [Result.andThen]
      rw [Oper.upon_value]
      go_wp2_with fail
      have hput := ((HH2.out.2.2.2.put 0 (.int .i64 kind)).put 1 (.string ⟨m.toArray⟩)).put 2 (.int .i64 0)
      have e0 := hput.cell 0
      have e1 := hput.cell 1
      have e2 := hput.cell 2
      refine bodyPost_ret (v := .tuple #[.agg #[.int .i64 kind, .string ⟨m.toArray⟩, .int .i64 0], .bool false]) (by simp [results, Tryd.results60, go_sem, e0, e1, e2]) rfl
        ⟨rfl, ((Blk.far HH2.out.2.2.1 (p := ⟨w.heap.size, 0, none⟩) hgw _).far (p := ⟨w.heap.size, 1, none⟩) hgw _).far (p := ⟨w.heap.size, 2, none⟩) hgw _, ?_⟩
      exact grown_new (grown_new (grown_new (grown_of_below HH2.out.2.1 _) (Nat.le_refl _) _ _) (Nat.le_refl _) _ _) (Nat.le_refl _) _ _
end Go.Proofs.YtkifhgnoadmfkaaDoor
