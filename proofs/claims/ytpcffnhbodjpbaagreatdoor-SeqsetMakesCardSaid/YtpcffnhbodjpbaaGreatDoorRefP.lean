/- The reference's Of; slices.Equal over ranges. -/
import Derived.Test.YtpcffnhbodjpbaaGreatDoorOfW
import Derived.Test.YtpcffnhbodjpbaaGreatDoorRefS
set_option linter.unusedVariables false
set_option linter.unusedSimpArgs false
namespace Go.Proofs.YtpcffnhbodjpbaaGreatDoor
open Go Go.RowKit Go.Shelf Go.Lib Go.Sort

set_option maxRecDepth 100000 in
set_option maxHeartbeats 3200000 in
theorem rof_any (l : List Int) (v : Value) (w : World) (hU : U32 w w.heap.size v l) (hl : l.length ≤ 1000000) (hr : ∀ x ∈ l, 0 ≤ x ∧ x < 4294967296) :
    Calls Tryz.prog 20 #[v] w fun e w' => ∃ v', e = .returned v' ∧ Buf w' w.heap.size 2 v' (grp (srtU l)).length ((grp (srtU l)).flatMap encP) ∧ Below w.heap.size w w' := by
  have HS := Lib.hid (ref_sorted l v w hU hl)
  have hcr : ∀ x ∈ srtU l, 0 < x ∧ x < 4294967296 := fun x hx => by
    obtain ⟨h1, h2⟩ := srtU_mem.1 hx
    have := hr x h1
    omega
  have hcl := srtU_len l
  have hca := srtU_asc l
  obtain ⟨ms, hmm⟩ : ∃ ms, srtU l = ms := ⟨_, rfl⟩
  rw [hmm] at hcr hcl hca HS ⊢
  obtain ⟨m, hm⟩ : ∃ m, ms.length = m := ⟨_, rfl⟩
  rw [hm] at hcl
  have HI := Lib.hid (And.intro hcr (And.intro hm hca))
  have hm1 : m ≤ 1000000 := by omega
  have hmI : (m : Int) ≤ 1000000 := by omega
  clear hU hl hr hcr hcl hmm hm hca
  go_enter Tryz.func20, Tryz.ntmps20
  go_wp2_with fail
  refine HS.out.mono ?_
  rintro e w3 ⟨v3, rfl, h3, hb3⟩
  have hrd := Rd1.of_buf h3
  obtain ⟨A3, c3, rfl, -, hcl⟩ := hrd
  rw [List.length_map, HI.out.2.1] at hcl ⊢
  have HCL := Lib.hid hcl
  have HB := Lib.hid hb3
  clear h3 hb3 hcl
  go_wp2_with fail
  go_loopw [3, 5] (fun s3 i wr => ∃ (k : Nat) (sv : Value), k ≤ m ∧ sv = s3 ∧ i = .int .i64 k ∧ Buf wr w3.heap.size 2 sv (grp (ms.take k)).length ((grp (ms.take k)).flatMap encP) ∧ (grp (ms.take k) = [] → sv = .slice none 0 0) ∧ Below w3.heap.size w3 wr) (fun _ i _ => m - (intOf i).toNat)
  case atStart => exact ⟨0, _, Nat.zero_le _, rfl, rfl, Buf.nil _ _ _, fun _ => rfl, Below.refl _ _⟩
  case round =>
    obtain ⟨k, sv, hk, rfl, rfl, hbuf, hnl, hbel⟩ := hrel
    have hkI : (k : Int) ≤ m := by omega
    by_cases hlt : k < m
    · have hltI : (k : Int) < m := by omega
      have hkl : k < ms.length := by have := HI.out.2.1; omega
      obtain ⟨x, hxe⟩ : ∃ x, ms[k] = x := ⟨_, rfl⟩
      have hx : ms[k]? = some x := by rw [List.getElem?_eq_getElem hkl, hxe]
      obtain ⟨b, o, rfl, hb, hcl⟩ := HCL.out (by omega)
      have e0 := hcl k (.int .u32 x) (by rw [List.getElem?_map, hx]; rfl)
      have c0 := (hbel.cell (p := ⟨b, o + k, none⟩) hb).trans e0
      obtain ⟨hx0, hx1⟩ := HI.out.1 x (by rw [← hxe]; exact List.getElem_mem _)
      have hstep : grp (ms.take (k + 1)) = stepG (grp (ms.take k)) x := by
        rw [List.take_succ_eq_append_getElem hkl, grp_snoc, hxe]
      have hol := foldG_len (ms.take k) []
      rw [List.length_take] at hol
      change (grp (ms.take k)).length ≤ _ at hol
      have hbs := hbel.size
      rcases Nat.eq_zero_or_pos k with rfl | hk0
      · rw [List.take_zero] at hbuf hnl hstep
        have hv := hnl rfl
        subst hv
        have HS := Lib.hid (And.intro hstep (And.intro hbel hbs))
        have HBU := Lib.hid hbuf
        clear hxe hx hcl e0 hstep hol hbuf hnl hbel
        have cx : wr.cell? ⟨b, o, none⟩ = some (.int .u32 x) := c0
        go_wp2_with fail
        go_quiet (fail)
        go_upto_region 8 with fail
        refine wp_region_any (by kernel_rfl) ?_
        change wpAny _ _ _ _ _ _ _ (World.drew _)
        refine wpAny_take (i := 0) (v := ?_) rfl (by kernel_rfl) (by kernel_rfl) (by kernel_rfl) (fun _ _ _ h => h) (Or.inl ⟨by rfl, ?_⟩) ?_
        rotate_left
        · intro w; go_simp
          try with_reducible rfl
        simp only [List.getElem_toArray, List.getElem_cons_zero, Act.put, List.setIfInBounds_toArray, List.set_cons_zero, List.set_cons_succ]
        refine wpAny_take (i := 1) (v := ?_) rfl (by kernel_rfl) (by kernel_rfl) (by kernel_rfl) (fun _ _ _ h => h) (Or.inl ⟨by rfl, ?_⟩) ?_
        rotate_left
        · intro w; go_simp
          try with_reducible rfl
        simp only [List.getElem_toArray, List.getElem_cons_zero, List.getElem_cons_succ, Act.put, List.setIfInBounds_toArray, List.set_cons_zero, List.set_cons_succ]
        refine wpAny_take (i := 2) (v := ?_) rfl (by kernel_rfl) (by kernel_rfl) (by kernel_rfl) (fun _ _ _ h => h) (Or.inl ⟨by rfl, ?_⟩) ?_
        rotate_left
        · intro w; go_simp
          try with_reducible rfl
        simp only [List.getElem_toArray, List.getElem_cons_zero, List.getElem_cons_succ, Act.put, List.setIfInBounds_toArray, List.set_cons_zero, List.set_cons_succ]
        refine wpAny_take (i := 3) (v := ?_) rfl (by kernel_rfl) (by kernel_rfl) (by kernel_rfl) (fun _ _ _ h => h) (Or.inl ⟨by rfl, ?_⟩) ?_
        rotate_left
        · intro w; go_simp
          try with_reducible rfl
        simp only [List.getElem_toArray, List.getElem_cons_zero, List.getElem_cons_succ, Act.put, List.setIfInBounds_toArray, List.set_cons_zero, List.set_cons_succ]
        refine wpAny_take (i := 5) (v := ?_) rfl (by kernel_rfl) (by kernel_rfl) (by kernel_rfl) (fun _ _ _ h => h) (Or.inl ⟨by rfl, ?_⟩) ?_
        rotate_left
        · intro w; go_simp
          try with_reducible rfl
        simp only [List.getElem_toArray, List.getElem_cons_zero, List.getElem_cons_succ, Act.put, List.setIfInBounds_toArray, List.set_cons_zero, List.set_cons_succ]
        refine wpAny_take (i := 6) (v := ?_) rfl (by kernel_rfl) (by kernel_rfl) (by kernel_rfl) (fun _ _ _ h => h) (Or.inl ⟨by rfl, ?_⟩) ?_
        rotate_left
        · intro w; go_simp
          try with_reducible rfl
        simp only [List.getElem_toArray, List.getElem_cons_zero, List.getElem_cons_succ, Act.put, List.setIfInBounds_toArray, List.set_cons_zero, List.set_cons_succ]
        refine wpAny_take (i := 7) (v := ?_) rfl (by kernel_rfl) (by kernel_rfl) (by kernel_rfl) (fun _ _ _ h => h) (Or.inl ⟨by rfl, ?_⟩) ?_
        rotate_left
        · intro w; go_simp
          try with_reducible rfl
        simp only [List.getElem_toArray, List.getElem_cons_zero, List.getElem_cons_succ, Act.put, List.setIfInBounds_toArray, List.set_cons_zero, List.set_cons_succ]
        refine wpAny_ready (rs := [4, 8]) (by kernel_rfl) (by simp) ?_
        refine AllReady.cons rfl (fun K hK => ?_) (AllReady.cons rfl (fun K hK => ?_) AllReady.nil)
        · go_simp
          refine hK _ _ ?_
          clear hK K
          try simp only [List.getElem_toArray, List.getElem_cons_zero, List.getElem_cons_succ, Act.put, List.setIfInBounds_toArray, List.set_cons_zero, List.set_cons_succ]
          refine wpAny_ready (rs := [8]) (by kernel_rfl) (by simp) ?_
          refine AllReady.cons rfl (fun K hK => ?_) AllReady.nil
          go_simp
          refine hK _ _ ?_
          clear hK K
          try simp only [List.getElem_toArray, List.getElem_cons_zero, List.getElem_cons_succ, Act.put, List.setIfInBounds_toArray, List.set_cons_zero, List.set_cons_succ]
          refine wpAny_take (i := 9) (v := ?_) rfl (by kernel_rfl) (by kernel_rfl) (by kernel_rfl) (fun _ _ _ h => h) (Or.inl ⟨by rfl, ?_⟩) ?_
          rotate_left
          · intro w; go_simp
            try with_reducible rfl
          simp only [List.getElem_toArray, List.getElem_cons_zero, List.getElem_cons_succ, Act.put, List.setIfInBounds_toArray, List.set_cons_zero, List.set_cons_succ]
          refine wpAny_ready (rs := [10]) (by kernel_rfl) (by simp) ?_
          refine AllReady.cons rfl (fun K hK => ?_) AllReady.nil
          go_simp
          refine hK _ _ ?_
          clear hK K
          try simp only [List.getElem_toArray, List.getElem_cons_zero, List.getElem_cons_succ, Act.put, List.setIfInBounds_toArray, List.set_cons_zero, List.set_cons_succ]
          refine wpAny_ready (rs := [11]) (by kernel_rfl) (by simp) ?_
          refine AllReady.cons rfl (fun K hK => ?_) AllReady.nil
          obtain ⟨g2, o2, c2, w4, hrun, hb4, hbel4⟩ := push_pair (P := []) (W := wr.drewN (nq + 1)) rfl HBU.out x x HS.out.2.2 (by decide)
          have HE := Lib.hid (And.intro hb4 hbel4)
          refine operAppend (.tmp 39) (.tmp 49) _ _ rfl _ _ rfl rfl _ _ hrun ?_
          refine hK _ _ ?_
          clear hK K
          try simp only [List.getElem_toArray, List.getElem_cons_zero, List.getElem_cons_succ, Act.put, List.setIfInBounds_toArray, List.set_cons_zero, List.set_cons_succ]
          refine wpAny_take (i := 12) (v := ?_) rfl (by kernel_rfl) (by kernel_rfl) (by kernel_rfl) (fun _ _ _ h => h) (Or.inl ⟨by rfl, ?_⟩) ?_
          rotate_left
          · intro w; go_simp
            try with_reducible rfl
          simp only [List.getElem_toArray, List.getElem_cons_zero, List.getElem_cons_succ, Act.put, List.setIfInBounds_toArray, List.set_cons_zero, List.set_cons_succ]
          refine wpAny_done (by kernel_rfl) ?_ _
          go_wp2_with fail
          go_roundw
          case rel =>
            refine ⟨0 + 1, _, by omega, rfl, by go_num, ?_, ?_, HS.out.2.1.trans ((below_drewN _ _).trans HE.out.2)⟩
            · rw [HS.out.1]; exact HE.out.1
            · rw [HS.out.1]; simp [stepG, grp]
          case measure => simp [intOf]; omega
        · go_simp
          refine hK _ _ ?_
          clear hK K
          try simp only [List.getElem_toArray, List.getElem_cons_zero, List.getElem_cons_succ, Act.put, List.setIfInBounds_toArray, List.set_cons_zero, List.set_cons_succ]
          refine wpAny_ready (rs := [4]) (by kernel_rfl) (by simp) ?_
          refine AllReady.cons rfl (fun K hK => ?_) AllReady.nil
          go_simp
          refine hK _ _ ?_
          clear hK K
          try simp only [List.getElem_toArray, List.getElem_cons_zero, List.getElem_cons_succ, Act.put, List.setIfInBounds_toArray, List.set_cons_zero, List.set_cons_succ]
          refine wpAny_take (i := 9) (v := ?_) rfl (by kernel_rfl) (by kernel_rfl) (by kernel_rfl) (fun _ _ _ h => h) (Or.inl ⟨by rfl, ?_⟩) ?_
          rotate_left
          · intro w; go_simp
            try with_reducible rfl
          simp only [List.getElem_toArray, List.getElem_cons_zero, List.getElem_cons_succ, Act.put, List.setIfInBounds_toArray, List.set_cons_zero, List.set_cons_succ]
          refine wpAny_ready (rs := [10]) (by kernel_rfl) (by simp) ?_
          refine AllReady.cons rfl (fun K hK => ?_) AllReady.nil
          go_simp
          refine hK _ _ ?_
          clear hK K
          try simp only [List.getElem_toArray, List.getElem_cons_zero, List.getElem_cons_succ, Act.put, List.setIfInBounds_toArray, List.set_cons_zero, List.set_cons_succ]
          refine wpAny_ready (rs := [11]) (by kernel_rfl) (by simp) ?_
          refine AllReady.cons rfl (fun K hK => ?_) AllReady.nil
          obtain ⟨g2, o2, c2, w4, hrun, hb4, hbel4⟩ := push_pair (P := []) (W := wr.drewN (nq + 1)) rfl HBU.out x x HS.out.2.2 (by decide)
          have HE := Lib.hid (And.intro hb4 hbel4)
          refine operAppend (.tmp 39) (.tmp 49) _ _ rfl _ _ rfl rfl _ _ hrun ?_
          refine hK _ _ ?_
          clear hK K
          try simp only [List.getElem_toArray, List.getElem_cons_zero, List.getElem_cons_succ, Act.put, List.setIfInBounds_toArray, List.set_cons_zero, List.set_cons_succ]
          refine wpAny_take (i := 12) (v := ?_) rfl (by kernel_rfl) (by kernel_rfl) (by kernel_rfl) (fun _ _ _ h => h) (Or.inl ⟨by rfl, ?_⟩) ?_
          rotate_left
          · intro w; go_simp
            try with_reducible rfl
          simp only [List.getElem_toArray, List.getElem_cons_zero, List.getElem_cons_succ, Act.put, List.setIfInBounds_toArray, List.set_cons_zero, List.set_cons_succ]
          refine wpAny_done (by kernel_rfl) ?_ _
          go_wp2_with fail
          go_roundw
          case rel =>
            refine ⟨0 + 1, _, by omega, rfl, by go_num, ?_, ?_, HS.out.2.1.trans ((below_drewN _ _).trans HE.out.2)⟩
            · rw [HS.out.1]; exact HE.out.1
            · rw [HS.out.1]; simp [stepG, grp]
          case measure => simp [intOf]; omega
      · obtain ⟨k1, rfl⟩ : ∃ k1, k = k1 + 1 := ⟨k - 1, by omega⟩
        have hk1l : k1 < ms.length := by omega
        obtain ⟨y, hye⟩ : ∃ y, ms[k1] = y := ⟨_, rfl⟩
        have hy : ms[k1]? = some y := by rw [List.getElem?_eq_getElem hk1l, hye]
        have e1 := hcl k1 (.int .u32 y) (by rw [List.getElem?_map, hy]; rfl)
        have c1 := (hbel.cell (p := ⟨b, o + k1, none⟩) hb).trans e1
        have hyx : y < x := by
          have := List.pairwise_iff_getElem.1 HI.out.2.2 k1 (k1 + 1) hk1l hkl (by omega)
          rw [hye, hxe] at this
          exact this
        have hy0 := (HI.out.1 y (by rw [← hye]; exact List.getElem_mem _)).1
        obtain ⟨a, hlast⟩ := grp_last (l := ms.take (k1 + 1)) (x := y) (by
          rw [List.take_succ_eq_append_getElem hk1l, hye]; simp)
        obtain ⟨D, hD⟩ := List.getLast?_eq_some_iff.1 hlast
        rw [hD] at hbuf hstep hol hnl
        have hlen : (D ++ [(a, y)]).length = D.length + 1 := by simp
        rw [hlen] at hbuf hol
        obtain ⟨g, off, cp, hsv⟩ := buf_pos (n := D.length) hbuf
        subst hsv
        obtain ⟨cl, f1, hbg, hgl, hcp⟩ := cell_last hbuf rfl
        obtain ⟨d, hd⟩ : ∃ d, D.length = d := ⟨_, rfl⟩
        rw [hd] at hbuf hol cl f1 hcp ⊢
        have hd1 : d ≤ 1000000 := by simp at hol; omega
        have hdI : (d : Int) ≤ 1000000 := by omega
        have hk0I : (0 : Int) < (k1 : Int) + 1 := by omega
        have hk0L : (0 : Int) ≤ (k1 : Int) + 1 := by omega
        have hk1L : (k1 : Int) + 1 < m := by omega
        have hk1w : IntKind.i64.wrap (k1 : Int) = k1 := by simp [IntKind.wrap, IntKind.bits, IntKind.signed]; omega
        have hyw : IntKind.u32.wrap (y + 1) = y + 1 := by simp [IntKind.wrap, IntKind.bits, IntKind.signed]; omega
        have hk1I : (k1 : Int) < m := by omega
        by_cases hj : y + 1 = x
        · have hjs : (x == y + 1) = true := by simpa using hj.symm
          have HX := Lib.hid (And.intro hj (And.intro hbuf (And.intro hd (And.intro hbg (And.intro hstep hbel)))))
          have es : stepG (D ++ [(a, y)]) x = D ++ [(a, x)] := by
            unfold stepG
            rw [List.getLast?_append]
            simp [hj]
          have HES := Lib.hid es
          subst hj
          clear hxe hx hcl e0 e1 hstep hol hye hy hlast hD hbuf hnl hd hlen hbg hbel es
          go_wp2_with fail
          go_quiet (fail)
          go_wp2_with fail
          go_roundw
          case rel =>
            refine ⟨k1 + 1 + 1, _, by omega, rfl, by go_num, ?_, ?_, ?_⟩
            · rw [HX.out.2.2.2.2.1, HES.out]
              have := HX.out.2.1.set (d * 2 + 1) (by omega) (.int .u32 (y + 1))
              rw [← HX.out.2.2.1, set_last, HX.out.2.2.1] at this
              rw [show (D ++ [(a, y + 1)]).length = d + 1 by simp [HX.out.2.2.1]]
              rw [← Nat.add_assoc] at this
              exact this
            · rw [HX.out.2.2.2.2.1, HES.out]; simp
            · exact Below.setCell (p := ⟨g, off + d * 2 + 1, none⟩) (HX.out.2.2.2.2.2.trans (below_drewN _ _)) HX.out.2.2.2.1 _
          case measure => simp [intOf]; omega
        · have hjs : (x == y + 1) = false := by
            rw [beq_eq_false_iff_ne]
            exact fun e => hj e.symm
          have hjn : ¬ (x = y + 1) := fun e => hj e.symm
          have es : stepG (D ++ [(a, y)]) x = (D ++ [(a, y)]) ++ [(x, x)] := by
            unfold stepG
            rw [List.getLast?_append]
            simp [hj]
          have HS := Lib.hid (And.intro (hstep.trans es) (And.intro hbel hbs))
          have HBU := Lib.hid (And.intro hbuf (And.intro hd (And.intro (show d + 1 ≤ 1048576 by omega) hlen)))
          clear hxe hx hcl e0 e1 hstep hol hye hy hlast hD hbuf hnl hd hlen hbg hbel es hj
          have cx : wr.cell? ⟨b, o + (k1 + 1), none⟩ = some (.int .u32 x) := c0
          go_wp2_with fail
          go_quiet (fail)
          go_upto_region 8 with fail
          refine wp_region_any (by kernel_rfl) ?_
          change wpAny _ _ _ _ _ _ _ (World.drew _)
          refine wpAny_take (i := 0) (v := ?_) rfl (by kernel_rfl) (by kernel_rfl) (by kernel_rfl) (fun _ _ _ h => h) (Or.inl ⟨by rfl, ?_⟩) ?_
          rotate_left
          · intro w; go_simp
            try with_reducible rfl
          simp only [List.getElem_toArray, List.getElem_cons_zero, Act.put, List.setIfInBounds_toArray, List.set_cons_zero, List.set_cons_succ]
          refine wpAny_take (i := 1) (v := ?_) rfl (by kernel_rfl) (by kernel_rfl) (by kernel_rfl) (fun _ _ _ h => h) (Or.inl ⟨by rfl, ?_⟩) ?_
          rotate_left
          · intro w; go_simp
            try with_reducible rfl
          simp only [List.getElem_toArray, List.getElem_cons_zero, List.getElem_cons_succ, Act.put, List.setIfInBounds_toArray, List.set_cons_zero, List.set_cons_succ]
          refine wpAny_take (i := 2) (v := ?_) rfl (by kernel_rfl) (by kernel_rfl) (by kernel_rfl) (fun _ _ _ h => h) (Or.inl ⟨by rfl, ?_⟩) ?_
          rotate_left
          · intro w; go_simp
            try with_reducible rfl
          simp only [List.getElem_toArray, List.getElem_cons_zero, List.getElem_cons_succ, Act.put, List.setIfInBounds_toArray, List.set_cons_zero, List.set_cons_succ]
          refine wpAny_take (i := 3) (v := ?_) rfl (by kernel_rfl) (by kernel_rfl) (by kernel_rfl) (fun _ _ _ h => h) (Or.inl ⟨by rfl, ?_⟩) ?_
          rotate_left
          · intro w; go_simp
            try with_reducible rfl
          simp only [List.getElem_toArray, List.getElem_cons_zero, List.getElem_cons_succ, Act.put, List.setIfInBounds_toArray, List.set_cons_zero, List.set_cons_succ]
          refine wpAny_take (i := 5) (v := ?_) rfl (by kernel_rfl) (by kernel_rfl) (by kernel_rfl) (fun _ _ _ h => h) (Or.inl ⟨by rfl, ?_⟩) ?_
          rotate_left
          · intro w; go_simp
            try with_reducible rfl
          simp only [List.getElem_toArray, List.getElem_cons_zero, List.getElem_cons_succ, Act.put, List.setIfInBounds_toArray, List.set_cons_zero, List.set_cons_succ]
          refine wpAny_take (i := 6) (v := ?_) rfl (by kernel_rfl) (by kernel_rfl) (by kernel_rfl) (fun _ _ _ h => h) (Or.inl ⟨by rfl, ?_⟩) ?_
          rotate_left
          · intro w; go_simp
            try with_reducible rfl
          simp only [List.getElem_toArray, List.getElem_cons_zero, List.getElem_cons_succ, Act.put, List.setIfInBounds_toArray, List.set_cons_zero, List.set_cons_succ]
          refine wpAny_take (i := 7) (v := ?_) rfl (by kernel_rfl) (by kernel_rfl) (by kernel_rfl) (fun _ _ _ h => h) (Or.inl ⟨by rfl, ?_⟩) ?_
          rotate_left
          · intro w; go_simp
            try with_reducible rfl
          simp only [List.getElem_toArray, List.getElem_cons_zero, List.getElem_cons_succ, Act.put, List.setIfInBounds_toArray, List.set_cons_zero, List.set_cons_succ]
          refine wpAny_ready (rs := [4, 8]) (by kernel_rfl) (by simp) ?_
          refine AllReady.cons rfl (fun K hK => ?_) (AllReady.cons rfl (fun K hK => ?_) AllReady.nil)
          · go_simp
            refine hK _ _ ?_
            clear hK K
            try simp only [List.getElem_toArray, List.getElem_cons_zero, List.getElem_cons_succ, Act.put, List.setIfInBounds_toArray, List.set_cons_zero, List.set_cons_succ]
            refine wpAny_ready (rs := [8]) (by kernel_rfl) (by simp) ?_
            refine AllReady.cons rfl (fun K hK => ?_) AllReady.nil
            go_simp
            refine hK _ _ ?_
            clear hK K
            try simp only [List.getElem_toArray, List.getElem_cons_zero, List.getElem_cons_succ, Act.put, List.setIfInBounds_toArray, List.set_cons_zero, List.set_cons_succ]
            refine wpAny_take (i := 9) (v := ?_) rfl (by kernel_rfl) (by kernel_rfl) (by kernel_rfl) (fun _ _ _ h => h) (Or.inl ⟨by rfl, ?_⟩) ?_
            rotate_left
            · intro w; go_simp
              try with_reducible rfl
            simp only [List.getElem_toArray, List.getElem_cons_zero, List.getElem_cons_succ, Act.put, List.setIfInBounds_toArray, List.set_cons_zero, List.set_cons_succ]
            refine wpAny_ready (rs := [10]) (by kernel_rfl) (by simp) ?_
            refine AllReady.cons rfl (fun K hK => ?_) AllReady.nil
            go_simp
            refine hK _ _ ?_
            clear hK K
            try simp only [List.getElem_toArray, List.getElem_cons_zero, List.getElem_cons_succ, Act.put, List.setIfInBounds_toArray, List.set_cons_zero, List.set_cons_succ]
            refine wpAny_ready (rs := [11]) (by kernel_rfl) (by simp) ?_
            refine AllReady.cons rfl (fun K hK => ?_) AllReady.nil
            obtain ⟨g2, o2, c2, w4, hrun, hb4, hbel4⟩ := push_pair (P := D ++ [(a, y)]) (W := wr.drewN (nq + 1)) (by rw [HBU.out.2.2.2, HBU.out.2.1]) HBU.out.1 x x HS.out.2.2 HBU.out.2.2.1
            have HE := Lib.hid (And.intro hb4 hbel4)
            refine operAppend (.tmp 39) (.tmp 49) _ _ rfl _ _ rfl rfl _ _ hrun ?_
            refine hK _ _ ?_
            clear hK K
            try simp only [List.getElem_toArray, List.getElem_cons_zero, List.getElem_cons_succ, Act.put, List.setIfInBounds_toArray, List.set_cons_zero, List.set_cons_succ]
            refine wpAny_take (i := 12) (v := ?_) rfl (by kernel_rfl) (by kernel_rfl) (by kernel_rfl) (fun _ _ _ h => h) (Or.inl ⟨by rfl, ?_⟩) ?_
            rotate_left
            · intro w; go_simp
              try with_reducible rfl
            simp only [List.getElem_toArray, List.getElem_cons_zero, List.getElem_cons_succ, Act.put, List.setIfInBounds_toArray, List.set_cons_zero, List.set_cons_succ]
            refine wpAny_done (by kernel_rfl) ?_ _
            go_wp2_with fail
            go_roundw
            case rel =>
              refine ⟨k1 + 1 + 1, _, by omega, rfl, by go_num, ?_, ?_, HS.out.2.1.trans ((below_drewN _ _).trans HE.out.2)⟩
              · rw [HS.out.1, show (D ++ [(a, y)] ++ [(x, x)]).length = d + 1 + 1 by simp [HBU.out.2.1]]
                exact HE.out.1
              · rw [HS.out.1]; simp
            case measure => simp [intOf]; omega
          · go_simp
            refine hK _ _ ?_
            clear hK K
            try simp only [List.getElem_toArray, List.getElem_cons_zero, List.getElem_cons_succ, Act.put, List.setIfInBounds_toArray, List.set_cons_zero, List.set_cons_succ]
            refine wpAny_ready (rs := [4]) (by kernel_rfl) (by simp) ?_
            refine AllReady.cons rfl (fun K hK => ?_) AllReady.nil
            go_simp
            refine hK _ _ ?_
            clear hK K
            try simp only [List.getElem_toArray, List.getElem_cons_zero, List.getElem_cons_succ, Act.put, List.setIfInBounds_toArray, List.set_cons_zero, List.set_cons_succ]
            refine wpAny_take (i := 9) (v := ?_) rfl (by kernel_rfl) (by kernel_rfl) (by kernel_rfl) (fun _ _ _ h => h) (Or.inl ⟨by rfl, ?_⟩) ?_
            rotate_left
            · intro w; go_simp
              try with_reducible rfl
            simp only [List.getElem_toArray, List.getElem_cons_zero, List.getElem_cons_succ, Act.put, List.setIfInBounds_toArray, List.set_cons_zero, List.set_cons_succ]
            refine wpAny_ready (rs := [10]) (by kernel_rfl) (by simp) ?_
            refine AllReady.cons rfl (fun K hK => ?_) AllReady.nil
            go_simp
            refine hK _ _ ?_
            clear hK K
            try simp only [List.getElem_toArray, List.getElem_cons_zero, List.getElem_cons_succ, Act.put, List.setIfInBounds_toArray, List.set_cons_zero, List.set_cons_succ]
            refine wpAny_ready (rs := [11]) (by kernel_rfl) (by simp) ?_
            refine AllReady.cons rfl (fun K hK => ?_) AllReady.nil
            obtain ⟨g2, o2, c2, w4, hrun, hb4, hbel4⟩ := push_pair (P := D ++ [(a, y)]) (W := wr.drewN (nq + 1)) (by rw [HBU.out.2.2.2, HBU.out.2.1]) HBU.out.1 x x HS.out.2.2 HBU.out.2.2.1
            have HE := Lib.hid (And.intro hb4 hbel4)
            refine operAppend (.tmp 39) (.tmp 49) _ _ rfl _ _ rfl rfl _ _ hrun ?_
            refine hK _ _ ?_
            clear hK K
            try simp only [List.getElem_toArray, List.getElem_cons_zero, List.getElem_cons_succ, Act.put, List.setIfInBounds_toArray, List.set_cons_zero, List.set_cons_succ]
            refine wpAny_take (i := 12) (v := ?_) rfl (by kernel_rfl) (by kernel_rfl) (by kernel_rfl) (fun _ _ _ h => h) (Or.inl ⟨by rfl, ?_⟩) ?_
            rotate_left
            · intro w; go_simp
              try with_reducible rfl
            simp only [List.getElem_toArray, List.getElem_cons_zero, List.getElem_cons_succ, Act.put, List.setIfInBounds_toArray, List.set_cons_zero, List.set_cons_succ]
            refine wpAny_done (by kernel_rfl) ?_ _
            go_wp2_with fail
            go_roundw
            case rel =>
              refine ⟨k1 + 1 + 1, _, by omega, rfl, by go_num, ?_, ?_, HS.out.2.1.trans ((below_drewN _ _).trans HE.out.2)⟩
              · rw [HS.out.1, show (D ++ [(a, y)] ++ [(x, x)]).length = d + 1 + 1 by simp [HBU.out.2.1]]
                exact HE.out.1
              · rw [HS.out.1]; simp
            case measure => simp [intOf]; omega
    · obtain rfl : k = m := by omega
      rw [List.take_of_length_le (by have := HI.out.2.1; omega)] at hbuf
      have HF := Lib.hid (And.intro hbuf hbel)
      clear hbuf hbel hnl
      go_wp2_with fail
      go_ret
      have hs3 := HB.out.size
      exact ⟨sv, rfl, HF.out.1.mono hs3, HB.out.trans (HF.out.2.mono hs3)⟩

/-- The slice value v reads as the pairs l, in a block below B. -/
def RdP (W : World) (B : Nat) (v : Value) (l : List (Int × Int)) : Prop :=
  ∃ A cap, v = .slice A l.length cap ∧ (0 < l.length → ∃ b o, A = some ⟨b, o, none⟩ ∧ b < B ∧ ∀ j p, l[j]? = some p → W.cell? ⟨b, o + j * 2, none⟩ = some (.int .u32 p.1) ∧ W.cell? ⟨b, o + j * 2 + 1, none⟩ = some (.int .u32 p.2))
theorem RdP.below {W W' : World} {B n : Nat} {v : Value} {l : List (Int × Int)} (h : RdP W B v l) (hb : Below n W W') (hn : B ≤ n) : RdP W' B v l := by
  obtain ⟨A, cap, e, h2⟩ := h
  exact ⟨A, cap, e, fun h0 => by
    obtain ⟨b, o, e2, h3, h4⟩ := h2 h0
    exact ⟨b, o, e2, h3, fun j p hj => ⟨(hb.cell (p := ⟨b, o + j * 2, none⟩) (Nat.lt_of_lt_of_le h3 hn)).trans (h4 j p hj).1, (hb.cell (p := ⟨b, o + j * 2 + 1, none⟩) (Nat.lt_of_lt_of_le h3 hn)).trans (h4 j p hj).2⟩⟩⟩
theorem flatP_get : ∀ (l : List (Int × Int)) (j : Nat) (x : Int × Int), l[j]? = some x → (l.flatMap encP)[j * 2]? = some (.int .u32 x.1) ∧ (l.flatMap encP)[j * 2 + 1]? = some (.int .u32 x.2)
  | [], _, _, h => by simp at h
  | y :: l, 0, x, h => by
    simp only [List.getElem?_cons_zero, Option.some.injEq] at h
    subst h
    exact ⟨rfl, rfl⟩
  | y :: l, j + 1, x, h => by
    have := flatP_get l j x (by simpa using h)
    rw [List.flatMap_cons, List.getElem?_append_right (by rw [show (encP y).length = 2 from rfl]; omega), List.getElem?_append_right (by rw [show (encP y).length = 2 from rfl]; omega), show (encP y).length = 2 from rfl, show (j + 1) * 2 - 2 = j * 2 by omega, show (j + 1) * 2 + 1 - 2 = j * 2 + 1 by omega]
    exact this
theorem RdP.of_buf {W : World} {base : Nat} {v : Value} {l : List (Int × Int)} (h : Buf W base 2 v l.length (l.flatMap encP)) : RdP W W.heap.size v l := by
  rcases h.2 with ⟨rfl, h0⟩ | ⟨g, off, cap, rfl, h1, h2, h3, h4, -⟩
  · exact ⟨none, 0, by rw [h0], fun h => absurd h (by omega)⟩
  · refine ⟨_, cap, rfl, fun _ => ⟨g, off, rfl, h2, fun j p hj => ?_⟩⟩
    obtain ⟨f0, f1⟩ := flatP_get l j p hj
    exact ⟨h4 _ _ f0, h4 _ _ f1⟩
set_option maxRecDepth 100000 in
set_option maxHeartbeats 1600000 in
theorem eqr_same {B1 B2 : Nat} {v1 v2 : Value} {l : List (Int × Int)} {W : World} (h1 : RdP W B1 v1 l) (h2 : RdP W B2 v2 l) (hl : l.length ≤ 1048576) :
    Calls Tryz.prog 13 #[v1, v2] W fun e w' => e = .returned (.bool true) ∧ ∃ q, w' = W.drewN q := by
  obtain ⟨A1, cap1, rfl, hc1⟩ := h1
  obtain ⟨A2, cap2, rfl, hc2⟩ := h2
  obtain ⟨n, hn⟩ : ∃ n, l.length = n := ⟨_, rfl⟩
  rw [hn] at hc1 hc2 hl ⊢
  have HN := Lib.hid hn
  have H1 := Lib.hid hc1
  have H2 := Lib.hid hc2
  have hnI : (n : Int) ≤ 1048576 := by omega
  clear hn hc1 hc2
  go_enter Tryz.func13, Tryz.ntmps13
  go_wp2_with fail
  go_loopw [13] (fun i wr => ∃ k q : Nat, k ≤ n ∧ i = .int .i64 k ∧ wr = W.drewN q) (fun i _ => n - (intOf i).toNat)
  case atStart => exact ⟨0, 0, Nat.zero_le _, rfl, rfl⟩
  case round =>
    obtain ⟨k, q, hk, rfl, rfl⟩ := hrel
    have hkI : (k : Int) ≤ n := by omega
    by_cases hlt : k < n
    · have hltI : (k : Int) < n := by omega
      have hkl : k < l.length := by have := HN.out; omega
      obtain ⟨⟨x, y⟩, hxe⟩ : ∃ x, l[k] = x := ⟨_, rfl⟩
      have hx : l[k]? = some (x, y) := by rw [List.getElem?_eq_getElem hkl, hxe]
      obtain ⟨b, o, rfl, -, hcl⟩ := H1.out (by omega)
      obtain ⟨b2, o2, rfl, -, hcl2⟩ := H2.out (by omega)
      obtain ⟨a0, a1⟩ := hcl k _ hx
      obtain ⟨b0, b1⟩ := hcl2 k _ hx
      simp only at a0 a1 b0 b1
      clear hcl hcl2 hx hxe
      go_wp2_with fail
      go_quiet (fail)
      go_wp2_with fail
      go_roundw
      case rel => exact ⟨k + 1, _, by omega, by go_num, rfl⟩
      case measure => simp [intOf]; omega
    · obtain rfl : k = n := by omega
      go_wp2_with fail
      go_ret
      exact ⟨rfl, _, rfl⟩
end Go.Proofs.YtpcffnhbodjpbaaGreatDoor
