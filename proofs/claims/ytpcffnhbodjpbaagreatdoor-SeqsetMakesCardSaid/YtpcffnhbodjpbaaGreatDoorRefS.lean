/- The reference's Sorted: insertion into an ascending list. -/
import Derived.Test.YtpcffnhbodjpbaaGreatDoorResW
import Derived.Test.YtpcffnhbodjpbaaGreatDoorUniq
set_option linter.unusedVariables false
set_option linter.unusedSimpArgs false
namespace Go.Proofs.YtpcffnhbodjpbaaGreatDoor
open Go Go.RowKit Go.Shelf Go.Lib Go.Sort

theorem operAppend {P : Program} {o : Oper} {a : Act} {w : World} {K : Act → World → Prop} {Q : Exit → Act → World → Prop} (d s : Operand) (dT sT : TypeId)
    (ho : o.op = .call { callee := .builtin .append, args := #[d, s], argTypes := #[dT, sT] }) (x y : Value) (hx : a.eval d = x) (hy : a.eval s = y) (v : Value) (w' : World)
    (hrun : (Builtin.append_ #[dT, sT] o.type #[x, y]).run P w = .ok v w') (h : K (a.put o.dst v) w') : Oper.wp P o a w K Q := by
  unfold Oper.wp execOp
  simp only [ho, resolve, invoke, builtin, Sem.run_bind, Sem.run_pure, Result.andThen_ok, List.map_toArray, List.map_cons, List.map_nil, hx, hy, hrun]
  exact h
/-- What the insertion's appends hold on to: what lay at its start lies still. -/
theorem src_of {base n : Nat} {Wr W : World} {g off cap : Nat} {xs : List Value} (h : Buf Wr base 1 (.slice (some ⟨g, off, none⟩) n cap) n xs) (hb : Below Wr.heap.size Wr W) (h1 : ∀ u ∈ xs, u.oneCell' = true) (a : Nat) (ha : a ≤ n) :
    Src W 1 (some ⟨g, off, none⟩) a (xs.take a) ∧ Src W 1 (some ⟨g, off + a, none⟩) (n - a) (xs.drop a) := by
  have hn := h.1
  rcases h.2 with ⟨e, _⟩ | ⟨g', off', cap', e, h2, h3, h4, h5, -⟩
  · cases e
  · injection e with e1 _ e3
    injection e1 with e1
    injection e1 with e4 e5 _
    subst e4 e5 e3
    have hc : ∀ j u, xs[j]? = some u → W.cell? ⟨g, off + j, none⟩ = some u := fun j u hj => (hb.cell (p := ⟨g, off + j, none⟩) h3).trans (h5 j u hj)
    refine ⟨⟨by rw [List.length_take]; omega, fun u hu => h1 u (List.mem_of_mem_take hu), fun _ => ⟨_, rfl, fun j u hj => ?_⟩⟩, ⟨by rw [List.length_drop]; omega, fun u hu => h1 u (List.mem_of_mem_drop hu), fun _ => ⟨_, rfl, fun j u hj => ?_⟩⟩⟩
    · rw [Go.WideShapes.add_plain]
      refine hc j u ?_
      have hja : j < a := by
        have := (List.getElem?_eq_some_iff.1 hj).1
        rw [List.length_take] at this
        omega
      rwa [List.getElem?_take_of_lt hja] at hj
    · rw [Go.WideShapes.add_plain]
      rw [List.getElem?_drop] at hj
      have := hc (a + j) u hj
      rw [← Nat.add_assoc] at this
      exact this
theorem src_none (W : World) (A : Option Addr) : Src W 1 A 0 [] := ⟨rfl, by simp, fun h => absurd h (by omega)⟩
/-- One append of the chain: v holds xs, the source ys. -/
theorem chain_run {base n m : Nat} {v : Value} {xs ys : List Value} {W : World} {A : Option Addr} {c : Nat} (h : Buf W base 1 v n xs) (hs : Src W 1 A m ys) (hb : base ≤ W.heap.size) (hl : n + m ≤ 1048577) :
    ∃ v' w', (Builtin.append_ #[37, 37] 37 #[v, .slice A m c]).run Tryz.prog W = .ok v' w' ∧ Buf w' base 1 v' (n + m) (xs ++ ys) ∧ W.grownBy w' v.ownBlock ∧ Below base W w' ∧ (∀ k, v'.ownBlock = some k → v.ownBlock = some k ∨ W.heap.size ≤ k) := by
  obtain ⟨i0, hi, hz0, hz1, hz2⟩ := info_parts infoU32
  obtain ⟨v', w', hrun, hb', hgr, hrw⟩ := run_append_buf (P := Tryz.prog) W 37 37 30 i0 _ 1 4 Tryz.underlying37 hi hz0 hz1 hz2 rfl (by decide) base v n xs h A m c ys hs (by unfold maxLen; omega) (by omega) hb
  refine ⟨v', w', hrun, hb', hgr, (Below.refl _ W).grown hgr hb (fun k e => ?_), fun k e => ?_⟩
  · rcases h.2 with ⟨rfl, _⟩ | ⟨g, off, cap, rfl, h1, _⟩
    · cases e
    · have e' : g = k := by simpa [Value.ownBlock] using e
      omega
  · rcases hrw with e2 | ⟨g, e2, hg⟩
    · exact .inl (e2 ▸ e)
    · rw [e2] at e
      injection e with e
      exact .inr (by omega)
theorem src_one {W : World} {g : Nat} {x : Value} {t : TypeId} (h : Boxed W g t x) (hx : x.oneCell' = true := by rfl) : Src W 1 (some ⟨g, 0, none⟩) 1 [x] :=
  ⟨rfl, fun u hu => by simp at hu; subst hu; exact hx, fun _ => ⟨_, rfl, fun j u hj => by
    rw [Go.WideShapes.add_plain]
    cases j with
    | zero => simp at hj; subst hj; exact h.cell
    | succ j => simp at hj⟩⟩
theorem own_lt {W : World} {base n : Nat} {v : Value} {xs : List Value} (h : Buf W base 1 v n xs) (j : Nat) (e : v.ownBlock = some j) : j < W.heap.size := by
  rcases h.2 with ⟨rfl, _⟩ | ⟨g, off, cap, rfl, _, h1, _⟩
  · cases e
  · have e' : g = j := by simpa [Value.ownBlock] using e
    omega
theorem own_ne {v v' : Value} {ga g1 n : Nat} (ow : ∀ j, v'.ownBlock = some j → v.ownBlock = some j ∨ n ≤ j) (hv : v.ownBlock = some ga) (hne : ga ≠ g1) (hlt : g1 < n) : ∀ j, v'.ownBlock = some j → j ≠ g1 := fun j e => by
  rcases ow j e with e2 | e2
  · rw [hv] at e2
    injection e2 with e2
    omega
  · omega
theorem gen_world {M : World → Prop} {w W0 : World} (h : ∀ W, Below w.heap.size w W → M W) (hF : Below w.heap.size w W0) : M W0 := h _ hF
theorem empty_buf {W : World} {base : Nat} (hb : base ≤ W.heap.size) (t : TypeId) : Buf (W.alloc (.cells #[] t)) base 1 (.slice (some ⟨W.heap.size, 0, none⟩) 0 0) 0 [] :=
  ⟨rfl, .inr ⟨W.heap.size, 0, 0, rfl, hb, by rw [World.size_alloc]; omega, Nat.le_refl _, by simp, by simp⟩⟩

set_option maxRecDepth 100000 in
set_option maxHeartbeats 12800000 in
theorem ref_sorted (l : List Int) (v : Value) (w : World) (hU : U32 w w.heap.size v l) (hl : l.length ≤ 1000000) :
    Calls Tryz.prog 21 #[v] w fun e w' => ∃ v', e = .returned v' ∧ B32 w' w.heap.size v' (srtU l) ∧ Below w.heap.size w w' := by
  obtain ⟨A, cap, rfl, hcap, hc⟩ := hU
  obtain ⟨m, hm⟩ : ∃ m, l.length = m := ⟨_, rfl⟩
  rw [hm] at hcap hc hl ⊢
  have HM := Lib.hid hm
  have HC := Lib.hid hc
  clear hm hc
  have hmI : (m : Int) ≤ 1000000 := by omega
  go_enter Tryz.func21, Tryz.ntmps21
  go_wp2_with fail
  go_loopw [3, 4] (fun s3 i wr => ∃ (k : Nat) (sv : Value), k ≤ m ∧ sv = s3 ∧ i = .int .i64 k ∧ B32 wr w.heap.size sv (srtU (l.take k)) ∧ (srtU (l.take k) = [] → sv = .slice none 0 0) ∧ Below w.heap.size w wr) (fun _ i _ => m - (intOf i).toNat)
  case atStart => exact ⟨0, _, Nat.zero_le _, rfl, rfl, Buf.nil _ _ _, fun _ => rfl, Below.refl _ _⟩
  case round =>
    obtain ⟨k, sv, hk, rfl, rfl, hbuf, hnl, hbel⟩ := hrel
    have hkI : (k : Int) ≤ m := by omega
    by_cases hlt : k < m
    · have hltI : (k : Int) < m := by omega
      have hkl : k < l.length := by have := HM.out; omega
      obtain ⟨x, hxe⟩ : ∃ x, l[k] = x := ⟨_, rfl⟩
      have hx : l[k]? = some x := by rw [List.getElem?_eq_getElem hkl, hxe]
      obtain ⟨b, o, rfl, hb, hcl⟩ := HC.out (by omega)
      have cx : wr.cell? ⟨b, o + k, none⟩ = some (.int .u32 x) := (hbel.cell (p := ⟨b, o + k, none⟩) hb).trans (hcl k x hx)
      have hstep := srtU_take l k hkl
      rw [hxe] at hstep
      have hasc := srtU_asc (l.take k)
      have hlen : (srtU (l.take k)).length ≤ k := Nat.le_trans (srtU_len _) (by rw [List.length_take]; omega)
      obtain ⟨out, hout⟩ : ∃ out, srtU (l.take k) = out := ⟨_, rfl⟩
      rw [hout] at hbuf hstep hasc hlen hnl
      have hat := atU_le out x
      obtain ⟨n, hn⟩ : ∃ n, out.length = n := ⟨_, rfl⟩
      have HO := Lib.hid (And.intro hstep (And.intro hasc (And.intro hn (And.intro hbuf hbel))))
      have HNL := Lib.hid hnl
      rw [hn] at hlen hat
      have hnI : (n : Int) ≤ k := by omega
      obtain ⟨at_, hate⟩ : ∃ a, atU out x = a := ⟨_, rfl⟩
      rw [hate] at hat
      have HA := Lib.hid hate
      have hatI : (at_ : Int) ≤ n := by omega
      have hbw : b < wr.heap.size := Nat.lt_of_lt_of_le hb hbel.size
      have hshape := B32.shape hbuf
      rw [hn] at hshape
      clear hxe hx hcl hstep hasc hout hn hbel hate hnl
      rcases hshape with ⟨rfl, hnil⟩ | ⟨g, off, cp, rfl, hbg, hg, hncp, hH, -⟩
      · have hn0 : n = 0 := by have := HO.out.2.2.1; rw [hnil] at this; exact this.symm
        subst hn0
        obtain rfl : at_ = 0 := by omega
        have HNI := Lib.hid hnil
        clear hnil hbuf
        go_wp2_with fail
        go_loopw [5] (fun s5 wi => s5 = .int .i64 0 ∧ ∃ q, wi = wr.drewN q) (fun _ _ => 0)
        case atStart => exact ⟨rfl, 0, rfl⟩
        case round =>
          obtain ⟨rfl, q, rfl⟩ := hrel
          have cx2 : (wr.drewN q).cell? ⟨b, o + k, none⟩ = some (.int .u32 x) := cx
          by_cases hx0 : x = 0
          · subst hx0
            go_wp2_with fail
            go_quiet (fail)
            go_wp2_with fail
            go_quiet (fail)
            go_wp2_with fail
            go_roundw
            case rel =>
              refine ⟨k + 1, _, by omega, rfl, by go_num, ?_, ?_, ?_⟩
              · rw [HO.out.1]
                unfold insU
                rw [if_pos (.inl rfl)]
                exact HO.out.2.2.2.1
              · exact fun _ => rfl
              · exact HO.out.2.2.2.2.trans (below_drewN _ _)
            case measure => simp [intOf]; omega
          · have hx0z : (x == 0) = false := by simpa using hx0
            have HL9 : Hid ((srtU (l.take (k + 1))).length = 0 + 0 + 1 + 0 ∧ (srtU (l.take (k + 1))).map (Value.int .u32) = [] ++ [] ++ [.int .u32 x] ++ []) := Lib.hid (by
              rw [HO.out.1, HNI.out]
              unfold insU
              rw [if_neg (by simpa using hx0)]
              simp [atU])
            go_wp2_with fail
            go_quiet (fail)
            go_wp2_with fail
            go_quiet (fail)
            go_upto_region 9 with fail
            refine wp_region_any (by kernel_rfl) ?_
            change wpAny _ _ _ _ _ _ _ (World.drew _)
            refine gen_world (M := fun W => wpAny _ _ _ _ _ _ _ W) (fun W0 F0 => ?_) (w := wr) ⟨rfl, rfl, rfl, Nat.le_refl _, fun _ _ => rfl⟩
            change wpAny _ _ _ _ _ _ _ W0
            refine wpAny_take (i := 1) (v := ?_) rfl (by kernel_rfl) (by kernel_rfl) (by kernel_rfl) (fun _ _ _ h => h) (Or.inl ⟨by rfl, ?_⟩) ?_
            rotate_left
            · intro w; go_simp
              try with_reducible rfl
            simp only [List.getElem_toArray, List.getElem_cons_zero, List.getElem_cons_succ, Act.put, List.setIfInBounds_toArray, List.set_cons_zero, List.set_cons_succ]
            refine wpAny_take (i := 2) (v := ?_) rfl (by kernel_rfl) (by kernel_rfl) (by kernel_rfl) (fun _ _ _ h => h) (Or.inl ⟨by rfl, ?_⟩) ?_
            rotate_left
            · intro w; go_simp
              try with_reducible rfl
            simp only [List.getElem_toArray, List.getElem_cons_zero, List.getElem_cons_succ, Act.put, List.setIfInBounds_toArray, List.set_cons_zero, List.set_cons_succ]
            refine wpAny_take (i := 5) (v := ?_) rfl (by kernel_rfl) (by kernel_rfl) (by kernel_rfl) (fun _ _ _ h => h) (Or.inl ⟨by rfl, ?_⟩) ?_
            rotate_left
            · intro w; go_simp
              try with_reducible rfl
            simp only [List.getElem_toArray, List.getElem_cons_zero, List.getElem_cons_succ, Act.put, List.setIfInBounds_toArray, List.set_cons_zero, List.set_cons_succ]
            refine wpAny_take (i := 6) (v := ?_) rfl (by kernel_rfl) (by kernel_rfl) (by kernel_rfl) (fun _ _ _ h => h) (Or.inl ⟨by rfl, ?_⟩) ?_
            rotate_left
            · intro w; go_simp
              try with_reducible rfl
            simp only [List.getElem_toArray, List.getElem_cons_zero, List.getElem_cons_succ, Act.put, List.setIfInBounds_toArray, List.set_cons_zero, List.set_cons_succ]
            refine wpAny_take (i := 7) (v := ?_) rfl (by kernel_rfl) (by kernel_rfl) (by kernel_rfl) (fun _ _ _ h => h) (Or.inl ⟨by rfl, ?_⟩) ?_
            rotate_left
            · intro w; go_simp
              try with_reducible rfl
            simp only [List.getElem_toArray, List.getElem_cons_zero, List.getElem_cons_succ, Act.put, List.setIfInBounds_toArray, List.set_cons_zero, List.set_cons_succ]
            refine wpAny_take (i := 11) (v := ?_) rfl (by kernel_rfl) (by kernel_rfl) (by kernel_rfl) (fun _ _ _ h => h) (Or.inl ⟨by rfl, ?_⟩) ?_
            rotate_left
            · intro w; go_simp
              try with_reducible rfl
            simp only [List.getElem_toArray, List.getElem_cons_zero, List.getElem_cons_succ, Act.put, List.setIfInBounds_toArray, List.set_cons_zero, List.set_cons_succ]
            refine wpAny_take (i := 12) (v := ?_) rfl (by kernel_rfl) (by kernel_rfl) (by kernel_rfl) (fun _ _ _ h => h) (Or.inl ⟨by rfl, ?_⟩) ?_
            rotate_left
            · intro w; go_simp
              try with_reducible rfl
            simp only [List.getElem_toArray, List.getElem_cons_zero, List.getElem_cons_succ, Act.put, List.setIfInBounds_toArray, List.set_cons_zero, List.set_cons_succ]
            refine wpAny_take (i := 3) (v := ?_) rfl (by kernel_rfl) (by kernel_rfl) (by kernel_rfl) (fun _ _ _ h => h) (Or.inl ⟨by rfl, ?_⟩) ?_
            rotate_left
            · intro w; go_simp
              try with_reducible rfl
            simp only [List.getElem_toArray, List.getElem_cons_zero, List.getElem_cons_succ, Act.put, List.setIfInBounds_toArray, List.set_cons_zero, List.set_cons_succ]
            refine wpAny_take (i := 13) (v := ?_) rfl (by kernel_rfl) (by kernel_rfl) (by kernel_rfl) (fun _ _ _ h => h) (Or.inl ⟨by rfl, ?_⟩) ?_
            rotate_left
            · intro w; go_simp
              try with_reducible rfl
            simp only [List.getElem_toArray, List.getElem_cons_zero, List.getElem_cons_succ, Act.put, List.setIfInBounds_toArray, List.set_cons_zero, List.set_cons_succ]
            refine wpAny_ready (rs := [0, 8]) (by kernel_rfl) (by simp) ?_
            refine AllReady.cons rfl (fun K hK => ?_) (AllReady.cons rfl (fun K hK => ?_) AllReady.nil)
            · go_simp
              refine hK _ _ ?_
              clear hK K
              try simp only [List.getElem_toArray, List.getElem_cons_zero, List.getElem_cons_succ, Act.put, List.setIfInBounds_toArray, List.set_cons_zero, List.set_cons_succ]
              have F1 : Below wr.heap.size wr (W0.alloc (.cells #[] 30)) := F0.alloc F0.size _
              have A1 : Buf (W0.alloc (.cells #[] 30)) wr.heap.size 1 (.slice (some ⟨W0.heap.size, 0, none⟩) 0 0) 0 [] := empty_buf F0.size _
              generalize W0.alloc (.cells #[] 30) = W1 at F1 A1 ⊢
              have la1 := own_lt A1 W0.heap.size rfl
              generalize W0.heap.size = ga1 at *
              refine wpAny_ready (rs := [4, 8]) (by kernel_rfl) (by simp) ?_
              refine AllReady.cons rfl (fun K hK => ?_) (AllReady.cons rfl (fun K hK => ?_) AllReady.nil)
              · obtain ⟨v2, W2, R2, A2, g2, B2, ow2⟩ := chain_run (c := 0) A1 (src_none W1 _) F1.size (by omega)
                have F2 := F1.trans B2
                have lv2 := own_lt A2
                rw [if_pos (by rfl)]
                refine operAppend (.tmp 51) (.tmp 54) _ _ rfl _ _ rfl rfl _ _ R2 ?_
                refine hK _ _ ?_
                clear hK K
                try simp only [List.getElem_toArray, List.getElem_cons_zero, List.getElem_cons_succ, Act.put, List.setIfInBounds_toArray, List.set_cons_zero, List.set_cons_succ]
                refine wpAny_ready (rs := [8]) (by kernel_rfl) (by simp) ?_
                refine AllReady.cons rfl (fun K hK => ?_) AllReady.nil
                have cx3 : W2.cell? ⟨b, o + k, none⟩ = some (.int .u32 x) := (F2.cell (p := ⟨b, o + k, none⟩) hbw).trans cx
                go_simp
                refine hK _ _ ?_
                clear hK K
                try simp only [List.getElem_toArray, List.getElem_cons_zero, List.getElem_cons_succ, Act.put, List.setIfInBounds_toArray, List.set_cons_zero, List.set_cons_succ]
                refine wpAny_ready (rs := [9]) (by kernel_rfl) (by simp) ?_
                refine AllReady.cons rfl (fun K hK => ?_) AllReady.nil
                go_simp
                refine hK _ _ ?_
                clear hK K
                try simp only [List.getElem_toArray, List.getElem_cons_zero, List.getElem_cons_succ, Act.put, List.setIfInBounds_toArray, List.set_cons_zero, List.set_cons_succ]
                have F4 : Below wr.heap.size wr (W2.alloc (.cells #[.int .u32 x] 30)) := F2.alloc F2.size _
                have S4 : Boxed (W2.alloc (.cells #[.int .u32 x] 30)) W2.heap.size 30 (.int .u32 x) := Boxed.new _ _ _
                have A4 := A2.past (.cells #[.int .u32 x] 30)
                have ne4 : ∀ j, v2.ownBlock = some j → j ≠ W2.heap.size := fun j e => by have := lv2 j e; omega
                generalize W2.alloc (.cells #[.int .u32 x] 30) = W4 at F4 S4 A4 ⊢
                generalize W2.heap.size = gb4 at *
                refine wpAny_ready (rs := [10]) (by kernel_rfl) (by simp) ?_
                refine AllReady.cons rfl (fun K hK => ?_) AllReady.nil
                obtain ⟨v5, W5, R5, A5, g5, B5, ow5⟩ := chain_run (c := 1) A4 (src_one S4) F4.size (by omega)
                have F5 := F4.trans B5
                rw [if_pos (by rfl)]
                refine operAppend (.tmp 55) (.tmp 60) _ _ rfl _ _ rfl rfl _ _ R5 ?_
                refine hK _ _ ?_
                clear hK K
                try simp only [List.getElem_toArray, List.getElem_cons_zero, List.getElem_cons_succ, Act.put, List.setIfInBounds_toArray, List.set_cons_zero, List.set_cons_succ]
                refine wpAny_ready (rs := [14]) (by kernel_rfl) (by simp) ?_
                refine AllReady.cons rfl (fun K hK => ?_) AllReady.nil
                obtain ⟨v6, W6, R6, A6, g6, B6, ow6⟩ := chain_run (c := 0) A5 (src_none W5 _) F5.size (by omega)
                have F6 := F5.trans B6
                rw [if_pos (by rfl)]
                refine operAppend (.tmp 61) (.tmp 64) _ _ rfl _ _ rfl rfl _ _ R6 ?_
                refine hK _ _ ?_
                clear hK K
                try simp only [List.getElem_toArray, List.getElem_cons_zero, List.getElem_cons_succ, Act.put, List.setIfInBounds_toArray, List.set_cons_zero, List.set_cons_succ]
                refine wpAny_take (i := 15) (v := ?_) rfl (by kernel_rfl) (by kernel_rfl) (by kernel_rfl) (fun _ _ _ h => h) (Or.inl ⟨by rfl, ?_⟩) ?_
                rotate_left
                · intro w; go_simp
                  try with_reducible rfl
                simp only [List.getElem_toArray, List.getElem_cons_zero, List.getElem_cons_succ, Act.put, List.setIfInBounds_toArray, List.set_cons_zero, List.set_cons_succ]
                refine wpAny_done (by kernel_rfl) ?_ _
                have HZ := Lib.hid (And.intro A6 F6)
                clear A6 F6
                go_wp2_with fail
                go_roundw
                case rel =>
                  refine ⟨k + 1, _, by omega, rfl, by go_num, ?_, ?_, HO.out.2.2.2.2.trans (HZ.out.2.mono HO.out.2.2.2.2.size)⟩
                  · have hz := HZ.out.1.mono HO.out.2.2.2.2.size
                    unfold B32
                    rw [HL9.out.1, HL9.out.2]
                    exact hz
                  · intro e; have := HL9.out.2; rw [e] at this; simp at this; try omega
                case measure => simp [intOf]; omega
              · have cx7 : W1.cell? ⟨b, o + k, none⟩ = some (.int .u32 x) := (F1.cell (p := ⟨b, o + k, none⟩) hbw).trans cx
                go_simp
                refine hK _ _ ?_
                clear hK K
                try simp only [List.getElem_toArray, List.getElem_cons_zero, List.getElem_cons_succ, Act.put, List.setIfInBounds_toArray, List.set_cons_zero, List.set_cons_succ]
                refine wpAny_ready (rs := [4, 9]) (by kernel_rfl) (by simp) ?_
                refine AllReady.cons rfl (fun K hK => ?_) (AllReady.cons rfl (fun K hK => ?_) AllReady.nil)
                · obtain ⟨v8, W8, R8, A8, g8, B8, ow8⟩ := chain_run (c := 0) A1 (src_none W1 _) F1.size (by omega)
                  have F8 := F1.trans B8
                  have lv8 := own_lt A8
                  rw [if_pos (by rfl)]
                  refine operAppend (.tmp 51) (.tmp 54) _ _ rfl _ _ rfl rfl _ _ R8 ?_
                  refine hK _ _ ?_
                  clear hK K
                  try simp only [List.getElem_toArray, List.getElem_cons_zero, List.getElem_cons_succ, Act.put, List.setIfInBounds_toArray, List.set_cons_zero, List.set_cons_succ]
                  refine wpAny_ready (rs := [9]) (by kernel_rfl) (by simp) ?_
                  refine AllReady.cons rfl (fun K hK => ?_) AllReady.nil
                  go_simp
                  refine hK _ _ ?_
                  clear hK K
                  try simp only [List.getElem_toArray, List.getElem_cons_zero, List.getElem_cons_succ, Act.put, List.setIfInBounds_toArray, List.set_cons_zero, List.set_cons_succ]
                  have F9 : Below wr.heap.size wr (W8.alloc (.cells #[.int .u32 x] 30)) := F8.alloc F8.size _
                  have S9 : Boxed (W8.alloc (.cells #[.int .u32 x] 30)) W8.heap.size 30 (.int .u32 x) := Boxed.new _ _ _
                  have A9 := A8.past (.cells #[.int .u32 x] 30)
                  have ne9 : ∀ j, v8.ownBlock = some j → j ≠ W8.heap.size := fun j e => by have := lv8 j e; omega
                  generalize W8.alloc (.cells #[.int .u32 x] 30) = W9 at F9 S9 A9 ⊢
                  generalize W8.heap.size = gb9 at *
                  refine wpAny_ready (rs := [10]) (by kernel_rfl) (by simp) ?_
                  refine AllReady.cons rfl (fun K hK => ?_) AllReady.nil
                  obtain ⟨v10, W10, R10, A10, g10, B10, ow10⟩ := chain_run (c := 1) A9 (src_one S9) F9.size (by omega)
                  have F10 := F9.trans B10
                  rw [if_pos (by rfl)]
                  refine operAppend (.tmp 55) (.tmp 60) _ _ rfl _ _ rfl rfl _ _ R10 ?_
                  refine hK _ _ ?_
                  clear hK K
                  try simp only [List.getElem_toArray, List.getElem_cons_zero, List.getElem_cons_succ, Act.put, List.setIfInBounds_toArray, List.set_cons_zero, List.set_cons_succ]
                  refine wpAny_ready (rs := [14]) (by kernel_rfl) (by simp) ?_
                  refine AllReady.cons rfl (fun K hK => ?_) AllReady.nil
                  obtain ⟨v11, W11, R11, A11, g11, B11, ow11⟩ := chain_run (c := 0) A10 (src_none W10 _) F10.size (by omega)
                  have F11 := F10.trans B11
                  rw [if_pos (by rfl)]
                  refine operAppend (.tmp 61) (.tmp 64) _ _ rfl _ _ rfl rfl _ _ R11 ?_
                  refine hK _ _ ?_
                  clear hK K
                  try simp only [List.getElem_toArray, List.getElem_cons_zero, List.getElem_cons_succ, Act.put, List.setIfInBounds_toArray, List.set_cons_zero, List.set_cons_succ]
                  refine wpAny_take (i := 15) (v := ?_) rfl (by kernel_rfl) (by kernel_rfl) (by kernel_rfl) (fun _ _ _ h => h) (Or.inl ⟨by rfl, ?_⟩) ?_
                  rotate_left
                  · intro w; go_simp
                    try with_reducible rfl
                  simp only [List.getElem_toArray, List.getElem_cons_zero, List.getElem_cons_succ, Act.put, List.setIfInBounds_toArray, List.set_cons_zero, List.set_cons_succ]
                  refine wpAny_done (by kernel_rfl) ?_ _
                  have HZ := Lib.hid (And.intro A11 F11)
                  clear A11 F11
                  go_wp2_with fail
                  go_roundw
                  case rel =>
                    refine ⟨k + 1, _, by omega, rfl, by go_num, ?_, ?_, HO.out.2.2.2.2.trans (HZ.out.2.mono HO.out.2.2.2.2.size)⟩
                    · have hz := HZ.out.1.mono HO.out.2.2.2.2.size
                      unfold B32
                      rw [HL9.out.1, HL9.out.2]
                      exact hz
                    · intro e; have := HL9.out.2; rw [e] at this; simp at this; try omega
                  case measure => simp [intOf]; omega
                · go_simp
                  refine hK _ _ ?_
                  clear hK K
                  try simp only [List.getElem_toArray, List.getElem_cons_zero, List.getElem_cons_succ, Act.put, List.setIfInBounds_toArray, List.set_cons_zero, List.set_cons_succ]
                  have F12 : Below wr.heap.size wr (W1.alloc (.cells #[.int .u32 x] 30)) := F1.alloc F1.size _
                  have S12 : Boxed (W1.alloc (.cells #[.int .u32 x] 30)) W1.heap.size 30 (.int .u32 x) := Boxed.new _ _ _
                  have A12 := A1.past (.cells #[.int .u32 x] 30)
                  have ne12 : ga1 ≠ W1.heap.size := by have := la1; omega
                  generalize W1.alloc (.cells #[.int .u32 x] 30) = W12 at F12 S12 A12 ⊢
                  generalize W1.heap.size = gb12 at *
                  refine wpAny_ready (rs := [4]) (by kernel_rfl) (by simp) ?_
                  refine AllReady.cons rfl (fun K hK => ?_) AllReady.nil
                  obtain ⟨v13, W13, R13, A13, g13, B13, ow13⟩ := chain_run (c := 0) A12 (src_none W12 _) F12.size (by omega)
                  have F13 := F12.trans B13
                  have lv13 := own_lt A13
                  have S13 := Boxed.kept S12 g13 (by simpa [Value.ownBlock] using ne12.symm)
                  have ne13 := own_ne ow13 rfl ne12 S12.lt
                  rw [if_pos (by rfl)]
                  refine operAppend (.tmp 51) (.tmp 54) _ _ rfl _ _ rfl rfl _ _ R13 ?_
                  refine hK _ _ ?_
                  clear hK K
                  try simp only [List.getElem_toArray, List.getElem_cons_zero, List.getElem_cons_succ, Act.put, List.setIfInBounds_toArray, List.set_cons_zero, List.set_cons_succ]
                  refine wpAny_ready (rs := [10]) (by kernel_rfl) (by simp) ?_
                  refine AllReady.cons rfl (fun K hK => ?_) AllReady.nil
                  obtain ⟨v14, W14, R14, A14, g14, B14, ow14⟩ := chain_run (c := 1) A13 (src_one S13) F13.size (by omega)
                  have F14 := F13.trans B14
                  rw [if_pos (by rfl)]
                  refine operAppend (.tmp 55) (.tmp 60) _ _ rfl _ _ rfl rfl _ _ R14 ?_
                  refine hK _ _ ?_
                  clear hK K
                  try simp only [List.getElem_toArray, List.getElem_cons_zero, List.getElem_cons_succ, Act.put, List.setIfInBounds_toArray, List.set_cons_zero, List.set_cons_succ]
                  refine wpAny_ready (rs := [14]) (by kernel_rfl) (by simp) ?_
                  refine AllReady.cons rfl (fun K hK => ?_) AllReady.nil
                  obtain ⟨v15, W15, R15, A15, g15, B15, ow15⟩ := chain_run (c := 0) A14 (src_none W14 _) F14.size (by omega)
                  have F15 := F14.trans B15
                  rw [if_pos (by rfl)]
                  refine operAppend (.tmp 61) (.tmp 64) _ _ rfl _ _ rfl rfl _ _ R15 ?_
                  refine hK _ _ ?_
                  clear hK K
                  try simp only [List.getElem_toArray, List.getElem_cons_zero, List.getElem_cons_succ, Act.put, List.setIfInBounds_toArray, List.set_cons_zero, List.set_cons_succ]
                  refine wpAny_take (i := 15) (v := ?_) rfl (by kernel_rfl) (by kernel_rfl) (by kernel_rfl) (fun _ _ _ h => h) (Or.inl ⟨by rfl, ?_⟩) ?_
                  rotate_left
                  · intro w; go_simp
                    try with_reducible rfl
                  simp only [List.getElem_toArray, List.getElem_cons_zero, List.getElem_cons_succ, Act.put, List.setIfInBounds_toArray, List.set_cons_zero, List.set_cons_succ]
                  refine wpAny_done (by kernel_rfl) ?_ _
                  have HZ := Lib.hid (And.intro A15 F15)
                  clear A15 F15
                  go_wp2_with fail
                  go_roundw
                  case rel =>
                    refine ⟨k + 1, _, by omega, rfl, by go_num, ?_, ?_, HO.out.2.2.2.2.trans (HZ.out.2.mono HO.out.2.2.2.2.size)⟩
                    · have hz := HZ.out.1.mono HO.out.2.2.2.2.size
                      unfold B32
                      rw [HL9.out.1, HL9.out.2]
                      exact hz
                    · intro e; have := HL9.out.2; rw [e] at this; simp at this; try omega
                  case measure => simp [intOf]; omega
            · have cx16 : W0.cell? ⟨b, o + k, none⟩ = some (.int .u32 x) := (F0.cell (p := ⟨b, o + k, none⟩) hbw).trans cx
              go_simp
              refine hK _ _ ?_
              clear hK K
              try simp only [List.getElem_toArray, List.getElem_cons_zero, List.getElem_cons_succ, Act.put, List.setIfInBounds_toArray, List.set_cons_zero, List.set_cons_succ]
              refine wpAny_ready (rs := [0, 9]) (by kernel_rfl) (by simp) ?_
              refine AllReady.cons rfl (fun K hK => ?_) (AllReady.cons rfl (fun K hK => ?_) AllReady.nil)
              · go_simp
                refine hK _ _ ?_
                clear hK K
                try simp only [List.getElem_toArray, List.getElem_cons_zero, List.getElem_cons_succ, Act.put, List.setIfInBounds_toArray, List.set_cons_zero, List.set_cons_succ]
                have F17 : Below wr.heap.size wr (W0.alloc (.cells #[] 30)) := F0.alloc F0.size _
                have A17 : Buf (W0.alloc (.cells #[] 30)) wr.heap.size 1 (.slice (some ⟨W0.heap.size, 0, none⟩) 0 0) 0 [] := empty_buf F0.size _
                generalize W0.alloc (.cells #[] 30) = W17 at F17 A17 ⊢
                have la17 := own_lt A17 W0.heap.size rfl
                generalize W0.heap.size = ga17 at *
                refine wpAny_ready (rs := [4, 9]) (by kernel_rfl) (by simp) ?_
                refine AllReady.cons rfl (fun K hK => ?_) (AllReady.cons rfl (fun K hK => ?_) AllReady.nil)
                · obtain ⟨v18, W18, R18, A18, g18, B18, ow18⟩ := chain_run (c := 0) A17 (src_none W17 _) F17.size (by omega)
                  have F18 := F17.trans B18
                  have lv18 := own_lt A18
                  rw [if_pos (by rfl)]
                  refine operAppend (.tmp 51) (.tmp 54) _ _ rfl _ _ rfl rfl _ _ R18 ?_
                  refine hK _ _ ?_
                  clear hK K
                  try simp only [List.getElem_toArray, List.getElem_cons_zero, List.getElem_cons_succ, Act.put, List.setIfInBounds_toArray, List.set_cons_zero, List.set_cons_succ]
                  refine wpAny_ready (rs := [9]) (by kernel_rfl) (by simp) ?_
                  refine AllReady.cons rfl (fun K hK => ?_) AllReady.nil
                  go_simp
                  refine hK _ _ ?_
                  clear hK K
                  try simp only [List.getElem_toArray, List.getElem_cons_zero, List.getElem_cons_succ, Act.put, List.setIfInBounds_toArray, List.set_cons_zero, List.set_cons_succ]
                  have F19 : Below wr.heap.size wr (W18.alloc (.cells #[.int .u32 x] 30)) := F18.alloc F18.size _
                  have S19 : Boxed (W18.alloc (.cells #[.int .u32 x] 30)) W18.heap.size 30 (.int .u32 x) := Boxed.new _ _ _
                  have A19 := A18.past (.cells #[.int .u32 x] 30)
                  have ne19 : ∀ j, v18.ownBlock = some j → j ≠ W18.heap.size := fun j e => by have := lv18 j e; omega
                  generalize W18.alloc (.cells #[.int .u32 x] 30) = W19 at F19 S19 A19 ⊢
                  generalize W18.heap.size = gb19 at *
                  refine wpAny_ready (rs := [10]) (by kernel_rfl) (by simp) ?_
                  refine AllReady.cons rfl (fun K hK => ?_) AllReady.nil
                  obtain ⟨v20, W20, R20, A20, g20, B20, ow20⟩ := chain_run (c := 1) A19 (src_one S19) F19.size (by omega)
                  have F20 := F19.trans B20
                  rw [if_pos (by rfl)]
                  refine operAppend (.tmp 55) (.tmp 60) _ _ rfl _ _ rfl rfl _ _ R20 ?_
                  refine hK _ _ ?_
                  clear hK K
                  try simp only [List.getElem_toArray, List.getElem_cons_zero, List.getElem_cons_succ, Act.put, List.setIfInBounds_toArray, List.set_cons_zero, List.set_cons_succ]
                  refine wpAny_ready (rs := [14]) (by kernel_rfl) (by simp) ?_
                  refine AllReady.cons rfl (fun K hK => ?_) AllReady.nil
                  obtain ⟨v21, W21, R21, A21, g21, B21, ow21⟩ := chain_run (c := 0) A20 (src_none W20 _) F20.size (by omega)
                  have F21 := F20.trans B21
                  rw [if_pos (by rfl)]
                  refine operAppend (.tmp 61) (.tmp 64) _ _ rfl _ _ rfl rfl _ _ R21 ?_
                  refine hK _ _ ?_
                  clear hK K
                  try simp only [List.getElem_toArray, List.getElem_cons_zero, List.getElem_cons_succ, Act.put, List.setIfInBounds_toArray, List.set_cons_zero, List.set_cons_succ]
                  refine wpAny_take (i := 15) (v := ?_) rfl (by kernel_rfl) (by kernel_rfl) (by kernel_rfl) (fun _ _ _ h => h) (Or.inl ⟨by rfl, ?_⟩) ?_
                  rotate_left
                  · intro w; go_simp
                    try with_reducible rfl
                  simp only [List.getElem_toArray, List.getElem_cons_zero, List.getElem_cons_succ, Act.put, List.setIfInBounds_toArray, List.set_cons_zero, List.set_cons_succ]
                  refine wpAny_done (by kernel_rfl) ?_ _
                  have HZ := Lib.hid (And.intro A21 F21)
                  clear A21 F21
                  go_wp2_with fail
                  go_roundw
                  case rel =>
                    refine ⟨k + 1, _, by omega, rfl, by go_num, ?_, ?_, HO.out.2.2.2.2.trans (HZ.out.2.mono HO.out.2.2.2.2.size)⟩
                    · have hz := HZ.out.1.mono HO.out.2.2.2.2.size
                      unfold B32
                      rw [HL9.out.1, HL9.out.2]
                      exact hz
                    · intro e; have := HL9.out.2; rw [e] at this; simp at this; try omega
                  case measure => simp [intOf]; omega
                · go_simp
                  refine hK _ _ ?_
                  clear hK K
                  try simp only [List.getElem_toArray, List.getElem_cons_zero, List.getElem_cons_succ, Act.put, List.setIfInBounds_toArray, List.set_cons_zero, List.set_cons_succ]
                  have F22 : Below wr.heap.size wr (W17.alloc (.cells #[.int .u32 x] 30)) := F17.alloc F17.size _
                  have S22 : Boxed (W17.alloc (.cells #[.int .u32 x] 30)) W17.heap.size 30 (.int .u32 x) := Boxed.new _ _ _
                  have A22 := A17.past (.cells #[.int .u32 x] 30)
                  have ne22 : ga17 ≠ W17.heap.size := by have := la17; omega
                  generalize W17.alloc (.cells #[.int .u32 x] 30) = W22 at F22 S22 A22 ⊢
                  generalize W17.heap.size = gb22 at *
                  refine wpAny_ready (rs := [4]) (by kernel_rfl) (by simp) ?_
                  refine AllReady.cons rfl (fun K hK => ?_) AllReady.nil
                  obtain ⟨v23, W23, R23, A23, g23, B23, ow23⟩ := chain_run (c := 0) A22 (src_none W22 _) F22.size (by omega)
                  have F23 := F22.trans B23
                  have lv23 := own_lt A23
                  have S23 := Boxed.kept S22 g23 (by simpa [Value.ownBlock] using ne22.symm)
                  have ne23 := own_ne ow23 rfl ne22 S22.lt
                  rw [if_pos (by rfl)]
                  refine operAppend (.tmp 51) (.tmp 54) _ _ rfl _ _ rfl rfl _ _ R23 ?_
                  refine hK _ _ ?_
                  clear hK K
                  try simp only [List.getElem_toArray, List.getElem_cons_zero, List.getElem_cons_succ, Act.put, List.setIfInBounds_toArray, List.set_cons_zero, List.set_cons_succ]
                  refine wpAny_ready (rs := [10]) (by kernel_rfl) (by simp) ?_
                  refine AllReady.cons rfl (fun K hK => ?_) AllReady.nil
                  obtain ⟨v24, W24, R24, A24, g24, B24, ow24⟩ := chain_run (c := 1) A23 (src_one S23) F23.size (by omega)
                  have F24 := F23.trans B24
                  rw [if_pos (by rfl)]
                  refine operAppend (.tmp 55) (.tmp 60) _ _ rfl _ _ rfl rfl _ _ R24 ?_
                  refine hK _ _ ?_
                  clear hK K
                  try simp only [List.getElem_toArray, List.getElem_cons_zero, List.getElem_cons_succ, Act.put, List.setIfInBounds_toArray, List.set_cons_zero, List.set_cons_succ]
                  refine wpAny_ready (rs := [14]) (by kernel_rfl) (by simp) ?_
                  refine AllReady.cons rfl (fun K hK => ?_) AllReady.nil
                  obtain ⟨v25, W25, R25, A25, g25, B25, ow25⟩ := chain_run (c := 0) A24 (src_none W24 _) F24.size (by omega)
                  have F25 := F24.trans B25
                  rw [if_pos (by rfl)]
                  refine operAppend (.tmp 61) (.tmp 64) _ _ rfl _ _ rfl rfl _ _ R25 ?_
                  refine hK _ _ ?_
                  clear hK K
                  try simp only [List.getElem_toArray, List.getElem_cons_zero, List.getElem_cons_succ, Act.put, List.setIfInBounds_toArray, List.set_cons_zero, List.set_cons_succ]
                  refine wpAny_take (i := 15) (v := ?_) rfl (by kernel_rfl) (by kernel_rfl) (by kernel_rfl) (fun _ _ _ h => h) (Or.inl ⟨by rfl, ?_⟩) ?_
                  rotate_left
                  · intro w; go_simp
                    try with_reducible rfl
                  simp only [List.getElem_toArray, List.getElem_cons_zero, List.getElem_cons_succ, Act.put, List.setIfInBounds_toArray, List.set_cons_zero, List.set_cons_succ]
                  refine wpAny_done (by kernel_rfl) ?_ _
                  have HZ := Lib.hid (And.intro A25 F25)
                  clear A25 F25
                  go_wp2_with fail
                  go_roundw
                  case rel =>
                    refine ⟨k + 1, _, by omega, rfl, by go_num, ?_, ?_, HO.out.2.2.2.2.trans (HZ.out.2.mono HO.out.2.2.2.2.size)⟩
                    · have hz := HZ.out.1.mono HO.out.2.2.2.2.size
                      unfold B32
                      rw [HL9.out.1, HL9.out.2]
                      exact hz
                    · intro e; have := HL9.out.2; rw [e] at this; simp at this; try omega
                  case measure => simp [intOf]; omega
              · go_simp
                refine hK _ _ ?_
                clear hK K
                try simp only [List.getElem_toArray, List.getElem_cons_zero, List.getElem_cons_succ, Act.put, List.setIfInBounds_toArray, List.set_cons_zero, List.set_cons_succ]
                have F26 : Below wr.heap.size wr (W0.alloc (.cells #[.int .u32 x] 30)) := F0.alloc F0.size _
                have S26 : Boxed (W0.alloc (.cells #[.int .u32 x] 30)) W0.heap.size 30 (.int .u32 x) := Boxed.new _ _ _
                generalize W0.alloc (.cells #[.int .u32 x] 30) = W26 at F26 S26 ⊢
                generalize W0.heap.size = gb26 at *
                refine wpAny_ready (rs := [0]) (by kernel_rfl) (by simp) ?_
                refine AllReady.cons rfl (fun K hK => ?_) AllReady.nil
                go_simp
                refine hK _ _ ?_
                clear hK K
                try simp only [List.getElem_toArray, List.getElem_cons_zero, List.getElem_cons_succ, Act.put, List.setIfInBounds_toArray, List.set_cons_zero, List.set_cons_succ]
                have F27 : Below wr.heap.size wr (W26.alloc (.cells #[] 30)) := F26.alloc F26.size _
                have A27 : Buf (W26.alloc (.cells #[] 30)) wr.heap.size 1 (.slice (some ⟨W26.heap.size, 0, none⟩) 0 0) 0 [] := empty_buf F26.size _
                have S27 := (Boxed.alloc S26 (.cells #[] 30))
                have ne27 : W26.heap.size ≠ gb26 := by have := S26.lt; omega
                generalize W26.alloc (.cells #[] 30) = W27 at F27 A27 S27 ⊢
                have la27 := own_lt A27 W26.heap.size rfl
                generalize W26.heap.size = ga27 at *
                refine wpAny_ready (rs := [4]) (by kernel_rfl) (by simp) ?_
                refine AllReady.cons rfl (fun K hK => ?_) AllReady.nil
                obtain ⟨v28, W28, R28, A28, g28, B28, ow28⟩ := chain_run (c := 0) A27 (src_none W27 _) F27.size (by omega)
                have F28 := F27.trans B28
                have lv28 := own_lt A28
                have S28 := Boxed.kept S27 g28 (by simpa [Value.ownBlock] using ne27.symm)
                have ne28 := own_ne ow28 rfl ne27 S27.lt
                rw [if_pos (by rfl)]
                refine operAppend (.tmp 51) (.tmp 54) _ _ rfl _ _ rfl rfl _ _ R28 ?_
                refine hK _ _ ?_
                clear hK K
                try simp only [List.getElem_toArray, List.getElem_cons_zero, List.getElem_cons_succ, Act.put, List.setIfInBounds_toArray, List.set_cons_zero, List.set_cons_succ]
                refine wpAny_ready (rs := [10]) (by kernel_rfl) (by simp) ?_
                refine AllReady.cons rfl (fun K hK => ?_) AllReady.nil
                obtain ⟨v29, W29, R29, A29, g29, B29, ow29⟩ := chain_run (c := 1) A28 (src_one S28) F28.size (by omega)
                have F29 := F28.trans B29
                rw [if_pos (by rfl)]
                refine operAppend (.tmp 55) (.tmp 60) _ _ rfl _ _ rfl rfl _ _ R29 ?_
                refine hK _ _ ?_
                clear hK K
                try simp only [List.getElem_toArray, List.getElem_cons_zero, List.getElem_cons_succ, Act.put, List.setIfInBounds_toArray, List.set_cons_zero, List.set_cons_succ]
                refine wpAny_ready (rs := [14]) (by kernel_rfl) (by simp) ?_
                refine AllReady.cons rfl (fun K hK => ?_) AllReady.nil
                obtain ⟨v30, W30, R30, A30, g30, B30, ow30⟩ := chain_run (c := 0) A29 (src_none W29 _) F29.size (by omega)
                have F30 := F29.trans B30
                rw [if_pos (by rfl)]
                refine operAppend (.tmp 61) (.tmp 64) _ _ rfl _ _ rfl rfl _ _ R30 ?_
                refine hK _ _ ?_
                clear hK K
                try simp only [List.getElem_toArray, List.getElem_cons_zero, List.getElem_cons_succ, Act.put, List.setIfInBounds_toArray, List.set_cons_zero, List.set_cons_succ]
                refine wpAny_take (i := 15) (v := ?_) rfl (by kernel_rfl) (by kernel_rfl) (by kernel_rfl) (fun _ _ _ h => h) (Or.inl ⟨by rfl, ?_⟩) ?_
                rotate_left
                · intro w; go_simp
                  try with_reducible rfl
                simp only [List.getElem_toArray, List.getElem_cons_zero, List.getElem_cons_succ, Act.put, List.setIfInBounds_toArray, List.set_cons_zero, List.set_cons_succ]
                refine wpAny_done (by kernel_rfl) ?_ _
                have HZ := Lib.hid (And.intro A30 F30)
                clear A30 F30
                go_wp2_with fail
                go_roundw
                case rel =>
                  refine ⟨k + 1, _, by omega, rfl, by go_num, ?_, ?_, HO.out.2.2.2.2.trans (HZ.out.2.mono HO.out.2.2.2.2.size)⟩
                  · have hz := HZ.out.1.mono HO.out.2.2.2.2.size
                    unfold B32
                    rw [HL9.out.1, HL9.out.2]
                    exact hz
                  · intro e; have := HL9.out.2; rw [e] at this; simp at this; try omega
                case measure => simp [intOf]; omega
      · have hpos : 0 < n := by
          rcases Nat.eq_zero_or_pos n with h | h
          · exact absurd (HNL.out (List.eq_nil_of_length_eq_zero (by rw [HO.out.2.2.1]; exact h))) (by simp)
          · exact h
        have HSV : Hid (Buf wr w.heap.size 1 (.slice (some ⟨g, off, none⟩) n cp) n (out.map (Value.int .u32))) := Lib.hid (by
          have := hbuf
          unfold B32 at this
          rw [HO.out.2.2.1] at this
          exact this)
        have HU1 : Hid (∀ u ∈ out.map (Value.int .u32), u.oneCell' = true) := Lib.hid (fun u hu => by
          obtain ⟨z, _, rfl⟩ := List.mem_map.1 hu
          rfl)
        have HH := Lib.hid hH
        have hncpI : (n : Int) ≤ cp := by omega
        clear hbuf hbg hH
        go_wp2_with fail
        go_loopw [5] (fun s5 wi => ∃ a q : Nat, s5 = .int .i64 a ∧ wi = wr.drewN q ∧ at_ ≤ a ∧ a ≤ n) (fun s5 _ => (intOf s5).toNat)
        case atStart => exact ⟨n, 0, rfl, rfl, hat, Nat.le_refl _⟩
        case round =>
          obtain ⟨a, q, rfl, rfl, ha1, ha2⟩ := hrel
          have cx2 : (wr.drewN q).cell? ⟨b, o + k, none⟩ = some (.int .u32 x) := cx
          by_cases ha : at_ < a
          · obtain ⟨a1, ha1e⟩ : ∃ a1, a = a1 + 1 := ⟨a - 1, by omega⟩
            subst ha1e
            have hal : a1 < out.length := by have := HO.out.2.2.1; omega
            obtain ⟨y, hye⟩ : ∃ y, out[a1] = y := ⟨_, rfl⟩
            have hy : out[a1]? = some y := by rw [List.getElem?_eq_getElem hal, hye]
            have cy : wr.cell? ⟨g, off + a1, none⟩ = some (.int .u32 y) := holds_cell HH.out a1 y hy
            have hgt : x < y := by
              have := (atU_test (x := x) HO.out.2.1 hal).2 (by have := HA.out; omega)
              rw [hye] at this
              exact this
            have ha1n : (a1 : Int) < n := by omega
            have ha0 : (0 : Int) < (a1 : Int) + 1 := by omega
            have hwa : IntKind.i64.wrap (a1 : Int) = a1 := by simp [IntKind.wrap, IntKind.bits, IntKind.signed]; omega
            clear hye hy
            go_wp2_with fail
            go_quiet (fail)
            go_wp2_with fail
            refine ⟨⟨a1, _, rfl, rfl, by omega, by omega⟩, by simp [intOf]⟩
          · obtain rfl : a = at_ := by omega
            clear ha1 ha
            have hxout : Hid (0 < a → ∃ y, out[a - 1]? = some y ∧ y ≤ x) := Lib.hid (fun h0 => by
              have hal : a - 1 < out.length := by have := HO.out.2.2.1; omega
              refine ⟨_, List.getElem?_eq_getElem hal, ?_⟩
              have h1 := atU_test (x := x) HO.out.2.1 hal
              have h2 := HA.out
              rcases Int.lt_or_le x out[a - 1] with h | h
              · have := h1.1 h; omega
              · exact h)
            have hskip : Hid (x = 0 ∨ x ∈ out → srtU (l.take (k + 1)) = out) := Lib.hid (fun h => by
              rw [HO.out.1]
              unfold insU
              rw [if_pos h])
            have hins : Hid (x ≠ 0 → x ∉ out → (srtU (l.take (k + 1))).length = 0 + a + 1 + (n - a) ∧ (srtU (l.take (k + 1))).map (Value.int .u32) = [] ++ (out.map (Value.int .u32)).take a ++ [.int .u32 x] ++ (out.map (Value.int .u32)).drop a) := Lib.hid (fun h1 h2 => by
              rw [HO.out.1]
              unfold insU
              rw [if_neg (by rintro (h | h); exact h1 h; exact h2 h), HA.out]
              have := HO.out.2.2.1
              refine ⟨by rw [List.length_append, List.length_cons, List.length_take, List.length_drop]; omega, by simp [List.map_take, List.map_drop]⟩)
            have hcp0 : ¬ (cp = 0) := by omega
            have hcpz : ¬ ((cp : Int) = 0) := by omega
            by_cases hx0 : x = 0
            · rcases Nat.eq_zero_or_pos a with h0 | h0
              · have h0d : decide ((0 : Int) < (a : Int)) = false := decide_eq_false (by omega)
                have h0p : ¬ ((0 : Int) < (a : Int)) := by omega
                have h0n : ¬ (0 < a) := by omega
                have h0nd : decide (0 < a) = false := decide_eq_false h0n
                have HSK := Lib.hid (hskip.out (.inl hx0))
                clear h0
                subst hx0
                go_wp2_with fail
                go_quiet (fail)
                go_wp2_with fail
                go_quiet (fail)
                go_wp2_with fail
                go_roundw
                case rel =>
                  refine ⟨k + 1, _, by omega, rfl, by go_num, ?_, ?_, HO.out.2.2.2.2.trans (below_drewN _ _)⟩
                  · rw [HSK.out]
                    exact HO.out.2.2.2.1
                  · intro e
                    rw [HSK.out] at e
                    exact HNL.out e
                case measure => simp [intOf]; omega
              · obtain ⟨y, hy, hyx⟩ := hxout.out h0
                obtain ⟨a1, rfl⟩ : ∃ a1, a = a1 + 1 := ⟨a - 1, by omega⟩
                rw [Nat.add_sub_cancel] at hy
                have cy : wr.cell? ⟨g, off + a1, none⟩ = some (.int .u32 y) := holds_cell HH.out a1 y hy
                have ha1n : (a1 : Int) < n := by omega
                have ha0 : (0 : Int) < (a1 : Int) + 1 := by omega
                have hwa : IntKind.i64.wrap (a1 : Int) = a1 := by simp [IntKind.wrap, IntKind.bits, IntKind.signed]; omega
                have HSK := Lib.hid (hskip.out (.inl hx0))
                subst hx0
                have hyd : decide ((0 : Int) < y) = false := decide_eq_false (by omega)
                have hyp : ¬ ((0 : Int) < y) := by omega
                clear hy
                go_wp2_with fail
                go_quiet (fail)
                go_wp2_with fail
                go_quiet (fail)
                go_wp2_with fail
                go_roundw
                case rel =>
                  refine ⟨k + 1, _, by omega, rfl, by go_num, ?_, ?_, HO.out.2.2.2.2.trans (below_drewN _ _)⟩
                  · rw [HSK.out]
                    exact HO.out.2.2.2.1
                  · intro e
                    rw [HSK.out] at e
                    exact HNL.out e
                case measure => simp [intOf]; omega
            · have hx0z : (x == 0) = false := by simpa using hx0
              rcases Nat.eq_zero_or_pos a with h0 | h0
              · have h0d : decide ((0 : Int) < (a : Int)) = false := decide_eq_false (by omega)
                have h0p : ¬ ((0 : Int) < (a : Int)) := by omega
                have h0n : ¬ (0 < a) := by omega
                have h0nd : decide (0 < a) = false := decide_eq_false h0n
                have hno : x ∉ out := fun h => by
                  have := (at_mem HO.out.2.1).1 h
                  rw [HA.out] at this
                  omega
                have hle : ¬ (cp ≤ a) := by omega
                have hsub : ¬ (cp - a = 0) := by omega
                have hacp : a ≤ cp := by omega
                have hcpne : ¬ (cp = a) := by omega
                have HL9 := Lib.hid (hins.out hx0 hno)
                clear hno h0
                go_wp2_with fail
                go_quiet (fail)
                go_wp2_with fail
                go_quiet (fail)
                go_upto_region 9 with fail
                refine wp_region_any (by kernel_rfl) ?_
                change wpAny _ _ _ _ _ _ _ (World.drew _)
                refine gen_world (M := fun W => wpAny _ _ _ _ _ _ _ W) (fun W0 F0 => ?_) (w := wr) ⟨rfl, rfl, rfl, Nat.le_refl _, fun _ _ => rfl⟩
                change wpAny _ _ _ _ _ _ _ W0
                refine wpAny_take (i := 1) (v := ?_) rfl (by kernel_rfl) (by kernel_rfl) (by kernel_rfl) (fun _ _ _ h => h) (Or.inl ⟨by rfl, ?_⟩) ?_
                rotate_left
                · intro w; go_simp
                  try with_reducible rfl
                simp only [List.getElem_toArray, List.getElem_cons_zero, List.getElem_cons_succ, Act.put, List.setIfInBounds_toArray, List.set_cons_zero, List.set_cons_succ]
                refine wpAny_take (i := 2) (v := ?_) rfl (by kernel_rfl) (by kernel_rfl) (by kernel_rfl) (fun _ _ _ h => h) (Or.inl ⟨by rfl, ?_⟩) ?_
                rotate_left
                · intro w; go_simp
                  try with_reducible rfl
                simp only [List.getElem_toArray, List.getElem_cons_zero, List.getElem_cons_succ, Act.put, List.setIfInBounds_toArray, List.set_cons_zero, List.set_cons_succ]
                refine wpAny_take (i := 5) (v := ?_) rfl (by kernel_rfl) (by kernel_rfl) (by kernel_rfl) (fun _ _ _ h => h) (Or.inl ⟨by rfl, ?_⟩) ?_
                rotate_left
                · intro w; go_simp
                  try with_reducible rfl
                simp only [List.getElem_toArray, List.getElem_cons_zero, List.getElem_cons_succ, Act.put, List.setIfInBounds_toArray, List.set_cons_zero, List.set_cons_succ]
                refine wpAny_take (i := 6) (v := ?_) rfl (by kernel_rfl) (by kernel_rfl) (by kernel_rfl) (fun _ _ _ h => h) (Or.inl ⟨by rfl, ?_⟩) ?_
                rotate_left
                · intro w; go_simp
                  try with_reducible rfl
                simp only [List.getElem_toArray, List.getElem_cons_zero, List.getElem_cons_succ, Act.put, List.setIfInBounds_toArray, List.set_cons_zero, List.set_cons_succ]
                refine wpAny_take (i := 7) (v := ?_) rfl (by kernel_rfl) (by kernel_rfl) (by kernel_rfl) (fun _ _ _ h => h) (Or.inl ⟨by rfl, ?_⟩) ?_
                rotate_left
                · intro w; go_simp
                  try with_reducible rfl
                simp only [List.getElem_toArray, List.getElem_cons_zero, List.getElem_cons_succ, Act.put, List.setIfInBounds_toArray, List.set_cons_zero, List.set_cons_succ]
                refine wpAny_take (i := 11) (v := ?_) rfl (by kernel_rfl) (by kernel_rfl) (by kernel_rfl) (fun _ _ _ h => h) (Or.inl ⟨by rfl, ?_⟩) ?_
                rotate_left
                · intro w; go_simp
                  try with_reducible rfl
                simp only [List.getElem_toArray, List.getElem_cons_zero, List.getElem_cons_succ, Act.put, List.setIfInBounds_toArray, List.set_cons_zero, List.set_cons_succ]
                refine wpAny_take (i := 12) (v := ?_) rfl (by kernel_rfl) (by kernel_rfl) (by kernel_rfl) (fun _ _ _ h => h) (Or.inl ⟨by rfl, ?_⟩) ?_
                rotate_left
                · intro w; go_simp
                  try with_reducible rfl
                simp only [List.getElem_toArray, List.getElem_cons_zero, List.getElem_cons_succ, Act.put, List.setIfInBounds_toArray, List.set_cons_zero, List.set_cons_succ]
                refine wpAny_take (i := 3) (v := ?_) rfl (by kernel_rfl) (by kernel_rfl) (by kernel_rfl) (fun _ _ _ h => h) (Or.inl ⟨by rfl, ?_⟩) ?_
                rotate_left
                · intro w; go_simp
                  try with_reducible rfl
                simp only [List.getElem_toArray, List.getElem_cons_zero, List.getElem_cons_succ, Act.put, List.setIfInBounds_toArray, List.set_cons_zero, List.set_cons_succ]
                refine wpAny_take (i := 13) (v := ?_) rfl (by kernel_rfl) (by kernel_rfl) (by kernel_rfl) (fun _ _ _ h => h) (Or.inl ⟨by rfl, ?_⟩) ?_
                rotate_left
                · intro w; go_simp
                  try with_reducible rfl
                simp only [List.getElem_toArray, List.getElem_cons_zero, List.getElem_cons_succ, Act.put, List.setIfInBounds_toArray, List.set_cons_zero, List.set_cons_succ]
                refine wpAny_ready (rs := [0, 8]) (by kernel_rfl) (by simp) ?_
                refine AllReady.cons rfl (fun K hK => ?_) (AllReady.cons rfl (fun K hK => ?_) AllReady.nil)
                · go_simp
                  refine hK _ _ ?_
                  clear hK K
                  try simp only [List.getElem_toArray, List.getElem_cons_zero, List.getElem_cons_succ, Act.put, List.setIfInBounds_toArray, List.set_cons_zero, List.set_cons_succ]
                  have F1 : Below wr.heap.size wr (W0.alloc (.cells #[] 30)) := F0.alloc F0.size _
                  have A1 : Buf (W0.alloc (.cells #[] 30)) wr.heap.size 1 (.slice (some ⟨W0.heap.size, 0, none⟩) 0 0) 0 [] := empty_buf F0.size _
                  generalize W0.alloc (.cells #[] 30) = W1 at F1 A1 ⊢
                  have la1 := own_lt A1 W0.heap.size rfl
                  generalize W0.heap.size = ga1 at *
                  refine wpAny_ready (rs := [4, 8]) (by kernel_rfl) (by simp) ?_
                  refine AllReady.cons rfl (fun K hK => ?_) (AllReady.cons rfl (fun K hK => ?_) AllReady.nil)
                  · obtain ⟨v2, W2, R2, A2, g2, B2, ow2⟩ := chain_run (c := cp) A1 (src_of HSV.out F1 HU1.out a hat).1 F1.size (by omega)
                    have F2 := F1.trans B2
                    have lv2 := own_lt A2
                    rw [if_pos (by rfl)]
                    refine operAppend (.tmp 51) (.tmp 54) _ _ rfl _ _ rfl rfl _ _ R2 ?_
                    refine hK _ _ ?_
                    clear hK K
                    try simp only [List.getElem_toArray, List.getElem_cons_zero, List.getElem_cons_succ, Act.put, List.setIfInBounds_toArray, List.set_cons_zero, List.set_cons_succ]
                    refine wpAny_ready (rs := [8]) (by kernel_rfl) (by simp) ?_
                    refine AllReady.cons rfl (fun K hK => ?_) AllReady.nil
                    have cx3 : W2.cell? ⟨b, o + k, none⟩ = some (.int .u32 x) := (F2.cell (p := ⟨b, o + k, none⟩) hbw).trans cx
                    go_simp
                    refine hK _ _ ?_
                    clear hK K
                    try simp only [List.getElem_toArray, List.getElem_cons_zero, List.getElem_cons_succ, Act.put, List.setIfInBounds_toArray, List.set_cons_zero, List.set_cons_succ]
                    refine wpAny_ready (rs := [9]) (by kernel_rfl) (by simp) ?_
                    refine AllReady.cons rfl (fun K hK => ?_) AllReady.nil
                    go_simp
                    refine hK _ _ ?_
                    clear hK K
                    try simp only [List.getElem_toArray, List.getElem_cons_zero, List.getElem_cons_succ, Act.put, List.setIfInBounds_toArray, List.set_cons_zero, List.set_cons_succ]
                    have F4 : Below wr.heap.size wr (W2.alloc (.cells #[.int .u32 x] 30)) := F2.alloc F2.size _
                    have S4 : Boxed (W2.alloc (.cells #[.int .u32 x] 30)) W2.heap.size 30 (.int .u32 x) := Boxed.new _ _ _
                    have A4 := A2.past (.cells #[.int .u32 x] 30)
                    have ne4 : ∀ j, v2.ownBlock = some j → j ≠ W2.heap.size := fun j e => by have := lv2 j e; omega
                    generalize W2.alloc (.cells #[.int .u32 x] 30) = W4 at F4 S4 A4 ⊢
                    generalize W2.heap.size = gb4 at *
                    refine wpAny_ready (rs := [10]) (by kernel_rfl) (by simp) ?_
                    refine AllReady.cons rfl (fun K hK => ?_) AllReady.nil
                    obtain ⟨v5, W5, R5, A5, g5, B5, ow5⟩ := chain_run (c := 1) A4 (src_one S4) F4.size (by omega)
                    have F5 := F4.trans B5
                    rw [if_pos (by rfl)]
                    refine operAppend (.tmp 55) (.tmp 60) _ _ rfl _ _ rfl rfl _ _ R5 ?_
                    refine hK _ _ ?_
                    clear hK K
                    try simp only [List.getElem_toArray, List.getElem_cons_zero, List.getElem_cons_succ, Act.put, List.setIfInBounds_toArray, List.set_cons_zero, List.set_cons_succ]
                    refine wpAny_ready (rs := [14]) (by kernel_rfl) (by simp) ?_
                    refine AllReady.cons rfl (fun K hK => ?_) AllReady.nil
                    obtain ⟨v6, W6, R6, A6, g6, B6, ow6⟩ := chain_run (c := (cp - a)) A5 (src_of HSV.out F5 HU1.out a hat).2 F5.size (by omega)
                    have F6 := F5.trans B6
                    rw [if_pos (by rfl)]
                    refine operAppend (.tmp 61) (.tmp 64) _ _ rfl _ _ rfl rfl _ _ R6 ?_
                    refine hK _ _ ?_
                    clear hK K
                    try simp only [List.getElem_toArray, List.getElem_cons_zero, List.getElem_cons_succ, Act.put, List.setIfInBounds_toArray, List.set_cons_zero, List.set_cons_succ]
                    refine wpAny_take (i := 15) (v := ?_) rfl (by kernel_rfl) (by kernel_rfl) (by kernel_rfl) (fun _ _ _ h => h) (Or.inl ⟨by rfl, ?_⟩) ?_
                    rotate_left
                    · intro w; go_simp
                      try with_reducible rfl
                    simp only [List.getElem_toArray, List.getElem_cons_zero, List.getElem_cons_succ, Act.put, List.setIfInBounds_toArray, List.set_cons_zero, List.set_cons_succ]
                    refine wpAny_done (by kernel_rfl) ?_ _
                    have HZ := Lib.hid (And.intro A6 F6)
                    clear A6 F6
                    go_wp2_with fail
                    go_roundw
                    case rel =>
                      refine ⟨k + 1, _, by omega, rfl, by go_num, ?_, ?_, HO.out.2.2.2.2.trans (HZ.out.2.mono HO.out.2.2.2.2.size)⟩
                      · have hz := HZ.out.1.mono HO.out.2.2.2.2.size
                        unfold B32
                        rw [HL9.out.1, HL9.out.2]
                        exact hz
                      · intro e; have := HL9.out.2; rw [e] at this; simp at this; try omega
                    case measure => simp [intOf]; omega
                  · have cx7 : W1.cell? ⟨b, o + k, none⟩ = some (.int .u32 x) := (F1.cell (p := ⟨b, o + k, none⟩) hbw).trans cx
                    go_simp
                    refine hK _ _ ?_
                    clear hK K
                    try simp only [List.getElem_toArray, List.getElem_cons_zero, List.getElem_cons_succ, Act.put, List.setIfInBounds_toArray, List.set_cons_zero, List.set_cons_succ]
                    refine wpAny_ready (rs := [4, 9]) (by kernel_rfl) (by simp) ?_
                    refine AllReady.cons rfl (fun K hK => ?_) (AllReady.cons rfl (fun K hK => ?_) AllReady.nil)
                    · obtain ⟨v8, W8, R8, A8, g8, B8, ow8⟩ := chain_run (c := cp) A1 (src_of HSV.out F1 HU1.out a hat).1 F1.size (by omega)
                      have F8 := F1.trans B8
                      have lv8 := own_lt A8
                      rw [if_pos (by rfl)]
                      refine operAppend (.tmp 51) (.tmp 54) _ _ rfl _ _ rfl rfl _ _ R8 ?_
                      refine hK _ _ ?_
                      clear hK K
                      try simp only [List.getElem_toArray, List.getElem_cons_zero, List.getElem_cons_succ, Act.put, List.setIfInBounds_toArray, List.set_cons_zero, List.set_cons_succ]
                      refine wpAny_ready (rs := [9]) (by kernel_rfl) (by simp) ?_
                      refine AllReady.cons rfl (fun K hK => ?_) AllReady.nil
                      go_simp
                      refine hK _ _ ?_
                      clear hK K
                      try simp only [List.getElem_toArray, List.getElem_cons_zero, List.getElem_cons_succ, Act.put, List.setIfInBounds_toArray, List.set_cons_zero, List.set_cons_succ]
                      have F9 : Below wr.heap.size wr (W8.alloc (.cells #[.int .u32 x] 30)) := F8.alloc F8.size _
                      have S9 : Boxed (W8.alloc (.cells #[.int .u32 x] 30)) W8.heap.size 30 (.int .u32 x) := Boxed.new _ _ _
                      have A9 := A8.past (.cells #[.int .u32 x] 30)
                      have ne9 : ∀ j, v8.ownBlock = some j → j ≠ W8.heap.size := fun j e => by have := lv8 j e; omega
                      generalize W8.alloc (.cells #[.int .u32 x] 30) = W9 at F9 S9 A9 ⊢
                      generalize W8.heap.size = gb9 at *
                      refine wpAny_ready (rs := [10]) (by kernel_rfl) (by simp) ?_
                      refine AllReady.cons rfl (fun K hK => ?_) AllReady.nil
                      obtain ⟨v10, W10, R10, A10, g10, B10, ow10⟩ := chain_run (c := 1) A9 (src_one S9) F9.size (by omega)
                      have F10 := F9.trans B10
                      rw [if_pos (by rfl)]
                      refine operAppend (.tmp 55) (.tmp 60) _ _ rfl _ _ rfl rfl _ _ R10 ?_
                      refine hK _ _ ?_
                      clear hK K
                      try simp only [List.getElem_toArray, List.getElem_cons_zero, List.getElem_cons_succ, Act.put, List.setIfInBounds_toArray, List.set_cons_zero, List.set_cons_succ]
                      refine wpAny_ready (rs := [14]) (by kernel_rfl) (by simp) ?_
                      refine AllReady.cons rfl (fun K hK => ?_) AllReady.nil
                      obtain ⟨v11, W11, R11, A11, g11, B11, ow11⟩ := chain_run (c := (cp - a)) A10 (src_of HSV.out F10 HU1.out a hat).2 F10.size (by omega)
                      have F11 := F10.trans B11
                      rw [if_pos (by rfl)]
                      refine operAppend (.tmp 61) (.tmp 64) _ _ rfl _ _ rfl rfl _ _ R11 ?_
                      refine hK _ _ ?_
                      clear hK K
                      try simp only [List.getElem_toArray, List.getElem_cons_zero, List.getElem_cons_succ, Act.put, List.setIfInBounds_toArray, List.set_cons_zero, List.set_cons_succ]
                      refine wpAny_take (i := 15) (v := ?_) rfl (by kernel_rfl) (by kernel_rfl) (by kernel_rfl) (fun _ _ _ h => h) (Or.inl ⟨by rfl, ?_⟩) ?_
                      rotate_left
                      · intro w; go_simp
                        try with_reducible rfl
                      simp only [List.getElem_toArray, List.getElem_cons_zero, List.getElem_cons_succ, Act.put, List.setIfInBounds_toArray, List.set_cons_zero, List.set_cons_succ]
                      refine wpAny_done (by kernel_rfl) ?_ _
                      have HZ := Lib.hid (And.intro A11 F11)
                      clear A11 F11
                      go_wp2_with fail
                      go_roundw
                      case rel =>
                        refine ⟨k + 1, _, by omega, rfl, by go_num, ?_, ?_, HO.out.2.2.2.2.trans (HZ.out.2.mono HO.out.2.2.2.2.size)⟩
                        · have hz := HZ.out.1.mono HO.out.2.2.2.2.size
                          unfold B32
                          rw [HL9.out.1, HL9.out.2]
                          exact hz
                        · intro e; have := HL9.out.2; rw [e] at this; simp at this; try omega
                      case measure => simp [intOf]; omega
                    · go_simp
                      refine hK _ _ ?_
                      clear hK K
                      try simp only [List.getElem_toArray, List.getElem_cons_zero, List.getElem_cons_succ, Act.put, List.setIfInBounds_toArray, List.set_cons_zero, List.set_cons_succ]
                      have F12 : Below wr.heap.size wr (W1.alloc (.cells #[.int .u32 x] 30)) := F1.alloc F1.size _
                      have S12 : Boxed (W1.alloc (.cells #[.int .u32 x] 30)) W1.heap.size 30 (.int .u32 x) := Boxed.new _ _ _
                      have A12 := A1.past (.cells #[.int .u32 x] 30)
                      have ne12 : ga1 ≠ W1.heap.size := by have := la1; omega
                      generalize W1.alloc (.cells #[.int .u32 x] 30) = W12 at F12 S12 A12 ⊢
                      generalize W1.heap.size = gb12 at *
                      refine wpAny_ready (rs := [4]) (by kernel_rfl) (by simp) ?_
                      refine AllReady.cons rfl (fun K hK => ?_) AllReady.nil
                      obtain ⟨v13, W13, R13, A13, g13, B13, ow13⟩ := chain_run (c := cp) A12 (src_of HSV.out F12 HU1.out a hat).1 F12.size (by omega)
                      have F13 := F12.trans B13
                      have lv13 := own_lt A13
                      have S13 := Boxed.kept S12 g13 (by simpa [Value.ownBlock] using ne12.symm)
                      have ne13 := own_ne ow13 rfl ne12 S12.lt
                      rw [if_pos (by rfl)]
                      refine operAppend (.tmp 51) (.tmp 54) _ _ rfl _ _ rfl rfl _ _ R13 ?_
                      refine hK _ _ ?_
                      clear hK K
                      try simp only [List.getElem_toArray, List.getElem_cons_zero, List.getElem_cons_succ, Act.put, List.setIfInBounds_toArray, List.set_cons_zero, List.set_cons_succ]
                      refine wpAny_ready (rs := [10]) (by kernel_rfl) (by simp) ?_
                      refine AllReady.cons rfl (fun K hK => ?_) AllReady.nil
                      obtain ⟨v14, W14, R14, A14, g14, B14, ow14⟩ := chain_run (c := 1) A13 (src_one S13) F13.size (by omega)
                      have F14 := F13.trans B14
                      rw [if_pos (by rfl)]
                      refine operAppend (.tmp 55) (.tmp 60) _ _ rfl _ _ rfl rfl _ _ R14 ?_
                      refine hK _ _ ?_
                      clear hK K
                      try simp only [List.getElem_toArray, List.getElem_cons_zero, List.getElem_cons_succ, Act.put, List.setIfInBounds_toArray, List.set_cons_zero, List.set_cons_succ]
                      refine wpAny_ready (rs := [14]) (by kernel_rfl) (by simp) ?_
                      refine AllReady.cons rfl (fun K hK => ?_) AllReady.nil
                      obtain ⟨v15, W15, R15, A15, g15, B15, ow15⟩ := chain_run (c := (cp - a)) A14 (src_of HSV.out F14 HU1.out a hat).2 F14.size (by omega)
                      have F15 := F14.trans B15
                      rw [if_pos (by rfl)]
                      refine operAppend (.tmp 61) (.tmp 64) _ _ rfl _ _ rfl rfl _ _ R15 ?_
                      refine hK _ _ ?_
                      clear hK K
                      try simp only [List.getElem_toArray, List.getElem_cons_zero, List.getElem_cons_succ, Act.put, List.setIfInBounds_toArray, List.set_cons_zero, List.set_cons_succ]
                      refine wpAny_take (i := 15) (v := ?_) rfl (by kernel_rfl) (by kernel_rfl) (by kernel_rfl) (fun _ _ _ h => h) (Or.inl ⟨by rfl, ?_⟩) ?_
                      rotate_left
                      · intro w; go_simp
                        try with_reducible rfl
                      simp only [List.getElem_toArray, List.getElem_cons_zero, List.getElem_cons_succ, Act.put, List.setIfInBounds_toArray, List.set_cons_zero, List.set_cons_succ]
                      refine wpAny_done (by kernel_rfl) ?_ _
                      have HZ := Lib.hid (And.intro A15 F15)
                      clear A15 F15
                      go_wp2_with fail
                      go_roundw
                      case rel =>
                        refine ⟨k + 1, _, by omega, rfl, by go_num, ?_, ?_, HO.out.2.2.2.2.trans (HZ.out.2.mono HO.out.2.2.2.2.size)⟩
                        · have hz := HZ.out.1.mono HO.out.2.2.2.2.size
                          unfold B32
                          rw [HL9.out.1, HL9.out.2]
                          exact hz
                        · intro e; have := HL9.out.2; rw [e] at this; simp at this; try omega
                      case measure => simp [intOf]; omega
                · have cx16 : W0.cell? ⟨b, o + k, none⟩ = some (.int .u32 x) := (F0.cell (p := ⟨b, o + k, none⟩) hbw).trans cx
                  go_simp
                  refine hK _ _ ?_
                  clear hK K
                  try simp only [List.getElem_toArray, List.getElem_cons_zero, List.getElem_cons_succ, Act.put, List.setIfInBounds_toArray, List.set_cons_zero, List.set_cons_succ]
                  refine wpAny_ready (rs := [0, 9]) (by kernel_rfl) (by simp) ?_
                  refine AllReady.cons rfl (fun K hK => ?_) (AllReady.cons rfl (fun K hK => ?_) AllReady.nil)
                  · go_simp
                    refine hK _ _ ?_
                    clear hK K
                    try simp only [List.getElem_toArray, List.getElem_cons_zero, List.getElem_cons_succ, Act.put, List.setIfInBounds_toArray, List.set_cons_zero, List.set_cons_succ]
                    have F17 : Below wr.heap.size wr (W0.alloc (.cells #[] 30)) := F0.alloc F0.size _
                    have A17 : Buf (W0.alloc (.cells #[] 30)) wr.heap.size 1 (.slice (some ⟨W0.heap.size, 0, none⟩) 0 0) 0 [] := empty_buf F0.size _
                    generalize W0.alloc (.cells #[] 30) = W17 at F17 A17 ⊢
                    have la17 := own_lt A17 W0.heap.size rfl
                    generalize W0.heap.size = ga17 at *
                    refine wpAny_ready (rs := [4, 9]) (by kernel_rfl) (by simp) ?_
                    refine AllReady.cons rfl (fun K hK => ?_) (AllReady.cons rfl (fun K hK => ?_) AllReady.nil)
                    · obtain ⟨v18, W18, R18, A18, g18, B18, ow18⟩ := chain_run (c := cp) A17 (src_of HSV.out F17 HU1.out a hat).1 F17.size (by omega)
                      have F18 := F17.trans B18
                      have lv18 := own_lt A18
                      rw [if_pos (by rfl)]
                      refine operAppend (.tmp 51) (.tmp 54) _ _ rfl _ _ rfl rfl _ _ R18 ?_
                      refine hK _ _ ?_
                      clear hK K
                      try simp only [List.getElem_toArray, List.getElem_cons_zero, List.getElem_cons_succ, Act.put, List.setIfInBounds_toArray, List.set_cons_zero, List.set_cons_succ]
                      refine wpAny_ready (rs := [9]) (by kernel_rfl) (by simp) ?_
                      refine AllReady.cons rfl (fun K hK => ?_) AllReady.nil
                      go_simp
                      refine hK _ _ ?_
                      clear hK K
                      try simp only [List.getElem_toArray, List.getElem_cons_zero, List.getElem_cons_succ, Act.put, List.setIfInBounds_toArray, List.set_cons_zero, List.set_cons_succ]
                      have F19 : Below wr.heap.size wr (W18.alloc (.cells #[.int .u32 x] 30)) := F18.alloc F18.size _
                      have S19 : Boxed (W18.alloc (.cells #[.int .u32 x] 30)) W18.heap.size 30 (.int .u32 x) := Boxed.new _ _ _
                      have A19 := A18.past (.cells #[.int .u32 x] 30)
                      have ne19 : ∀ j, v18.ownBlock = some j → j ≠ W18.heap.size := fun j e => by have := lv18 j e; omega
                      generalize W18.alloc (.cells #[.int .u32 x] 30) = W19 at F19 S19 A19 ⊢
                      generalize W18.heap.size = gb19 at *
                      refine wpAny_ready (rs := [10]) (by kernel_rfl) (by simp) ?_
                      refine AllReady.cons rfl (fun K hK => ?_) AllReady.nil
                      obtain ⟨v20, W20, R20, A20, g20, B20, ow20⟩ := chain_run (c := 1) A19 (src_one S19) F19.size (by omega)
                      have F20 := F19.trans B20
                      rw [if_pos (by rfl)]
                      refine operAppend (.tmp 55) (.tmp 60) _ _ rfl _ _ rfl rfl _ _ R20 ?_
                      refine hK _ _ ?_
                      clear hK K
                      try simp only [List.getElem_toArray, List.getElem_cons_zero, List.getElem_cons_succ, Act.put, List.setIfInBounds_toArray, List.set_cons_zero, List.set_cons_succ]
                      refine wpAny_ready (rs := [14]) (by kernel_rfl) (by simp) ?_
                      refine AllReady.cons rfl (fun K hK => ?_) AllReady.nil
                      obtain ⟨v21, W21, R21, A21, g21, B21, ow21⟩ := chain_run (c := (cp - a)) A20 (src_of HSV.out F20 HU1.out a hat).2 F20.size (by omega)
                      have F21 := F20.trans B21
                      rw [if_pos (by rfl)]
                      refine operAppend (.tmp 61) (.tmp 64) _ _ rfl _ _ rfl rfl _ _ R21 ?_
                      refine hK _ _ ?_
                      clear hK K
                      try simp only [List.getElem_toArray, List.getElem_cons_zero, List.getElem_cons_succ, Act.put, List.setIfInBounds_toArray, List.set_cons_zero, List.set_cons_succ]
                      refine wpAny_take (i := 15) (v := ?_) rfl (by kernel_rfl) (by kernel_rfl) (by kernel_rfl) (fun _ _ _ h => h) (Or.inl ⟨by rfl, ?_⟩) ?_
                      rotate_left
                      · intro w; go_simp
                        try with_reducible rfl
                      simp only [List.getElem_toArray, List.getElem_cons_zero, List.getElem_cons_succ, Act.put, List.setIfInBounds_toArray, List.set_cons_zero, List.set_cons_succ]
                      refine wpAny_done (by kernel_rfl) ?_ _
                      have HZ := Lib.hid (And.intro A21 F21)
                      clear A21 F21
                      go_wp2_with fail
                      go_roundw
                      case rel =>
                        refine ⟨k + 1, _, by omega, rfl, by go_num, ?_, ?_, HO.out.2.2.2.2.trans (HZ.out.2.mono HO.out.2.2.2.2.size)⟩
                        · have hz := HZ.out.1.mono HO.out.2.2.2.2.size
                          unfold B32
                          rw [HL9.out.1, HL9.out.2]
                          exact hz
                        · intro e; have := HL9.out.2; rw [e] at this; simp at this; try omega
                      case measure => simp [intOf]; omega
                    · go_simp
                      refine hK _ _ ?_
                      clear hK K
                      try simp only [List.getElem_toArray, List.getElem_cons_zero, List.getElem_cons_succ, Act.put, List.setIfInBounds_toArray, List.set_cons_zero, List.set_cons_succ]
                      have F22 : Below wr.heap.size wr (W17.alloc (.cells #[.int .u32 x] 30)) := F17.alloc F17.size _
                      have S22 : Boxed (W17.alloc (.cells #[.int .u32 x] 30)) W17.heap.size 30 (.int .u32 x) := Boxed.new _ _ _
                      have A22 := A17.past (.cells #[.int .u32 x] 30)
                      have ne22 : ga17 ≠ W17.heap.size := by have := la17; omega
                      generalize W17.alloc (.cells #[.int .u32 x] 30) = W22 at F22 S22 A22 ⊢
                      generalize W17.heap.size = gb22 at *
                      refine wpAny_ready (rs := [4]) (by kernel_rfl) (by simp) ?_
                      refine AllReady.cons rfl (fun K hK => ?_) AllReady.nil
                      obtain ⟨v23, W23, R23, A23, g23, B23, ow23⟩ := chain_run (c := cp) A22 (src_of HSV.out F22 HU1.out a hat).1 F22.size (by omega)
                      have F23 := F22.trans B23
                      have lv23 := own_lt A23
                      have S23 := Boxed.kept S22 g23 (by simpa [Value.ownBlock] using ne22.symm)
                      have ne23 := own_ne ow23 rfl ne22 S22.lt
                      rw [if_pos (by rfl)]
                      refine operAppend (.tmp 51) (.tmp 54) _ _ rfl _ _ rfl rfl _ _ R23 ?_
                      refine hK _ _ ?_
                      clear hK K
                      try simp only [List.getElem_toArray, List.getElem_cons_zero, List.getElem_cons_succ, Act.put, List.setIfInBounds_toArray, List.set_cons_zero, List.set_cons_succ]
                      refine wpAny_ready (rs := [10]) (by kernel_rfl) (by simp) ?_
                      refine AllReady.cons rfl (fun K hK => ?_) AllReady.nil
                      obtain ⟨v24, W24, R24, A24, g24, B24, ow24⟩ := chain_run (c := 1) A23 (src_one S23) F23.size (by omega)
                      have F24 := F23.trans B24
                      rw [if_pos (by rfl)]
                      refine operAppend (.tmp 55) (.tmp 60) _ _ rfl _ _ rfl rfl _ _ R24 ?_
                      refine hK _ _ ?_
                      clear hK K
                      try simp only [List.getElem_toArray, List.getElem_cons_zero, List.getElem_cons_succ, Act.put, List.setIfInBounds_toArray, List.set_cons_zero, List.set_cons_succ]
                      refine wpAny_ready (rs := [14]) (by kernel_rfl) (by simp) ?_
                      refine AllReady.cons rfl (fun K hK => ?_) AllReady.nil
                      obtain ⟨v25, W25, R25, A25, g25, B25, ow25⟩ := chain_run (c := (cp - a)) A24 (src_of HSV.out F24 HU1.out a hat).2 F24.size (by omega)
                      have F25 := F24.trans B25
                      rw [if_pos (by rfl)]
                      refine operAppend (.tmp 61) (.tmp 64) _ _ rfl _ _ rfl rfl _ _ R25 ?_
                      refine hK _ _ ?_
                      clear hK K
                      try simp only [List.getElem_toArray, List.getElem_cons_zero, List.getElem_cons_succ, Act.put, List.setIfInBounds_toArray, List.set_cons_zero, List.set_cons_succ]
                      refine wpAny_take (i := 15) (v := ?_) rfl (by kernel_rfl) (by kernel_rfl) (by kernel_rfl) (fun _ _ _ h => h) (Or.inl ⟨by rfl, ?_⟩) ?_
                      rotate_left
                      · intro w; go_simp
                        try with_reducible rfl
                      simp only [List.getElem_toArray, List.getElem_cons_zero, List.getElem_cons_succ, Act.put, List.setIfInBounds_toArray, List.set_cons_zero, List.set_cons_succ]
                      refine wpAny_done (by kernel_rfl) ?_ _
                      have HZ := Lib.hid (And.intro A25 F25)
                      clear A25 F25
                      go_wp2_with fail
                      go_roundw
                      case rel =>
                        refine ⟨k + 1, _, by omega, rfl, by go_num, ?_, ?_, HO.out.2.2.2.2.trans (HZ.out.2.mono HO.out.2.2.2.2.size)⟩
                        · have hz := HZ.out.1.mono HO.out.2.2.2.2.size
                          unfold B32
                          rw [HL9.out.1, HL9.out.2]
                          exact hz
                        · intro e; have := HL9.out.2; rw [e] at this; simp at this; try omega
                      case measure => simp [intOf]; omega
                  · go_simp
                    refine hK _ _ ?_
                    clear hK K
                    try simp only [List.getElem_toArray, List.getElem_cons_zero, List.getElem_cons_succ, Act.put, List.setIfInBounds_toArray, List.set_cons_zero, List.set_cons_succ]
                    have F26 : Below wr.heap.size wr (W0.alloc (.cells #[.int .u32 x] 30)) := F0.alloc F0.size _
                    have S26 : Boxed (W0.alloc (.cells #[.int .u32 x] 30)) W0.heap.size 30 (.int .u32 x) := Boxed.new _ _ _
                    generalize W0.alloc (.cells #[.int .u32 x] 30) = W26 at F26 S26 ⊢
                    generalize W0.heap.size = gb26 at *
                    refine wpAny_ready (rs := [0]) (by kernel_rfl) (by simp) ?_
                    refine AllReady.cons rfl (fun K hK => ?_) AllReady.nil
                    go_simp
                    refine hK _ _ ?_
                    clear hK K
                    try simp only [List.getElem_toArray, List.getElem_cons_zero, List.getElem_cons_succ, Act.put, List.setIfInBounds_toArray, List.set_cons_zero, List.set_cons_succ]
                    have F27 : Below wr.heap.size wr (W26.alloc (.cells #[] 30)) := F26.alloc F26.size _
                    have A27 : Buf (W26.alloc (.cells #[] 30)) wr.heap.size 1 (.slice (some ⟨W26.heap.size, 0, none⟩) 0 0) 0 [] := empty_buf F26.size _
                    have S27 := (Boxed.alloc S26 (.cells #[] 30))
                    have ne27 : W26.heap.size ≠ gb26 := by have := S26.lt; omega
                    generalize W26.alloc (.cells #[] 30) = W27 at F27 A27 S27 ⊢
                    have la27 := own_lt A27 W26.heap.size rfl
                    generalize W26.heap.size = ga27 at *
                    refine wpAny_ready (rs := [4]) (by kernel_rfl) (by simp) ?_
                    refine AllReady.cons rfl (fun K hK => ?_) AllReady.nil
                    obtain ⟨v28, W28, R28, A28, g28, B28, ow28⟩ := chain_run (c := cp) A27 (src_of HSV.out F27 HU1.out a hat).1 F27.size (by omega)
                    have F28 := F27.trans B28
                    have lv28 := own_lt A28
                    have S28 := Boxed.kept S27 g28 (by simpa [Value.ownBlock] using ne27.symm)
                    have ne28 := own_ne ow28 rfl ne27 S27.lt
                    rw [if_pos (by rfl)]
                    refine operAppend (.tmp 51) (.tmp 54) _ _ rfl _ _ rfl rfl _ _ R28 ?_
                    refine hK _ _ ?_
                    clear hK K
                    try simp only [List.getElem_toArray, List.getElem_cons_zero, List.getElem_cons_succ, Act.put, List.setIfInBounds_toArray, List.set_cons_zero, List.set_cons_succ]
                    refine wpAny_ready (rs := [10]) (by kernel_rfl) (by simp) ?_
                    refine AllReady.cons rfl (fun K hK => ?_) AllReady.nil
                    obtain ⟨v29, W29, R29, A29, g29, B29, ow29⟩ := chain_run (c := 1) A28 (src_one S28) F28.size (by omega)
                    have F29 := F28.trans B29
                    rw [if_pos (by rfl)]
                    refine operAppend (.tmp 55) (.tmp 60) _ _ rfl _ _ rfl rfl _ _ R29 ?_
                    refine hK _ _ ?_
                    clear hK K
                    try simp only [List.getElem_toArray, List.getElem_cons_zero, List.getElem_cons_succ, Act.put, List.setIfInBounds_toArray, List.set_cons_zero, List.set_cons_succ]
                    refine wpAny_ready (rs := [14]) (by kernel_rfl) (by simp) ?_
                    refine AllReady.cons rfl (fun K hK => ?_) AllReady.nil
                    obtain ⟨v30, W30, R30, A30, g30, B30, ow30⟩ := chain_run (c := (cp - a)) A29 (src_of HSV.out F29 HU1.out a hat).2 F29.size (by omega)
                    have F30 := F29.trans B30
                    rw [if_pos (by rfl)]
                    refine operAppend (.tmp 61) (.tmp 64) _ _ rfl _ _ rfl rfl _ _ R30 ?_
                    refine hK _ _ ?_
                    clear hK K
                    try simp only [List.getElem_toArray, List.getElem_cons_zero, List.getElem_cons_succ, Act.put, List.setIfInBounds_toArray, List.set_cons_zero, List.set_cons_succ]
                    refine wpAny_take (i := 15) (v := ?_) rfl (by kernel_rfl) (by kernel_rfl) (by kernel_rfl) (fun _ _ _ h => h) (Or.inl ⟨by rfl, ?_⟩) ?_
                    rotate_left
                    · intro w; go_simp
                      try with_reducible rfl
                    simp only [List.getElem_toArray, List.getElem_cons_zero, List.getElem_cons_succ, Act.put, List.setIfInBounds_toArray, List.set_cons_zero, List.set_cons_succ]
                    refine wpAny_done (by kernel_rfl) ?_ _
                    have HZ := Lib.hid (And.intro A30 F30)
                    clear A30 F30
                    go_wp2_with fail
                    go_roundw
                    case rel =>
                      refine ⟨k + 1, _, by omega, rfl, by go_num, ?_, ?_, HO.out.2.2.2.2.trans (HZ.out.2.mono HO.out.2.2.2.2.size)⟩
                      · have hz := HZ.out.1.mono HO.out.2.2.2.2.size
                        unfold B32
                        rw [HL9.out.1, HL9.out.2]
                        exact hz
                      · intro e; have := HL9.out.2; rw [e] at this; simp at this; try omega
                    case measure => simp [intOf]; omega
              · obtain ⟨y, hy, hyx⟩ := hxout.out h0
                obtain ⟨a1, ha1⟩ : ∃ a1, a = a1 + 1 := ⟨a - 1, by omega⟩
                have e1 : a - 1 = a1 := by omega
                rw [e1] at hy
                have cy : wr.cell? ⟨g, off + a1, none⟩ = some (.int .u32 y) := holds_cell HH.out a1 y hy
                have ha1n : (a1 : Int) < n := by omega
                have ha0 : (0 : Int) < (a : Int) := by omega
                have ha1I : (a : Int) - 1 = (a1 : Int) := by omega
                have hyd : decide (x < y) = false := decide_eq_false (by omega)
                have hyp : ¬ (x < y) := by omega
                have hwa : IntKind.i64.wrap (a1 : Int) = a1 := by simp [IntKind.wrap, IntKind.bits, IntKind.signed]; omega
                have HY := Lib.hid (And.intro hy ha1)
                clear hy ha1 e1
                by_cases hyx2 : y = x
                · subst hyx2
                  have HSK := Lib.hid (hskip.out (.inr (List.mem_of_getElem? HY.out.1)))
                  go_wp2_with fail
                  go_quiet (fail)
                  go_wp2_with fail
                  go_quiet (fail)
                  go_wp2_with fail
                  go_roundw
                  case rel =>
                    refine ⟨k + 1, _, by omega, rfl, by go_num, ?_, ?_, HO.out.2.2.2.2.trans (below_drewN _ _)⟩
                    · rw [HSK.out]
                      exact HO.out.2.2.2.1
                    · intro e
                      rw [HSK.out] at e
                      exact HNL.out e
                  case measure => simp [intOf]; omega
                · have hyz : (y == x) = false := by simpa using hyx2
                  have hno : x ∉ out := fun h => by
                    have h2 := (at_mem HO.out.2.1).1 h
                    rw [HA.out, show a - 1 = a1 by have := HY.out.2; omega, HY.out.1] at h2
                    exact hyx2 (by simpa using h2.2)
                  have HI := Lib.hid (hins.out hx0 hno)
                  clear hno
                  go_wp2_with fail
                  go_quiet (fail)
                  go_wp2_with fail
                  go_quiet (fail)
                  go_upto_region 9 with fail
                  by_cases hca : cp ≤ a
                  · obtain rfl : a = n := by omega
                    obtain rfl : a = cp := by omega
                    have HL9 : Hid ((srtU (l.take (k + 1))).length = 0 + a + 1 + 0 ∧ (srtU (l.take (k + 1))).map (Value.int .u32) = [] ++ (out.map (Value.int .u32)).take a ++ [.int .u32 x] ++ []) := Lib.hid (by
                      obtain ⟨h1, h2⟩ := HI.out
                      rw [Nat.sub_self] at h1
                      rw [List.drop_of_length_le (by rw [List.length_map]; have := HO.out.2.2.1; omega)] at h2
                      exact ⟨h1, h2⟩)
                    refine wp_region_any (by kernel_rfl) ?_
                    change wpAny _ _ _ _ _ _ _ (World.drew _)
                    refine gen_world (M := fun W => wpAny _ _ _ _ _ _ _ W) (fun W0 F0 => ?_) (w := wr) ⟨rfl, rfl, rfl, Nat.le_refl _, fun _ _ => rfl⟩
                    change wpAny _ _ _ _ _ _ _ W0
                    refine wpAny_take (i := 1) (v := ?_) rfl (by kernel_rfl) (by kernel_rfl) (by kernel_rfl) (fun _ _ _ h => h) (Or.inl ⟨by rfl, ?_⟩) ?_
                    rotate_left
                    · intro w; go_simp
                      try with_reducible rfl
                    simp only [List.getElem_toArray, List.getElem_cons_zero, List.getElem_cons_succ, Act.put, List.setIfInBounds_toArray, List.set_cons_zero, List.set_cons_succ]
                    refine wpAny_take (i := 2) (v := ?_) rfl (by kernel_rfl) (by kernel_rfl) (by kernel_rfl) (fun _ _ _ h => h) (Or.inl ⟨by rfl, ?_⟩) ?_
                    rotate_left
                    · intro w; go_simp
                      try with_reducible rfl
                    simp only [List.getElem_toArray, List.getElem_cons_zero, List.getElem_cons_succ, Act.put, List.setIfInBounds_toArray, List.set_cons_zero, List.set_cons_succ]
                    refine wpAny_take (i := 5) (v := ?_) rfl (by kernel_rfl) (by kernel_rfl) (by kernel_rfl) (fun _ _ _ h => h) (Or.inl ⟨by rfl, ?_⟩) ?_
                    rotate_left
                    · intro w; go_simp
                      try with_reducible rfl
                    simp only [List.getElem_toArray, List.getElem_cons_zero, List.getElem_cons_succ, Act.put, List.setIfInBounds_toArray, List.set_cons_zero, List.set_cons_succ]
                    refine wpAny_take (i := 6) (v := ?_) rfl (by kernel_rfl) (by kernel_rfl) (by kernel_rfl) (fun _ _ _ h => h) (Or.inl ⟨by rfl, ?_⟩) ?_
                    rotate_left
                    · intro w; go_simp
                      try with_reducible rfl
                    simp only [List.getElem_toArray, List.getElem_cons_zero, List.getElem_cons_succ, Act.put, List.setIfInBounds_toArray, List.set_cons_zero, List.set_cons_succ]
                    refine wpAny_take (i := 7) (v := ?_) rfl (by kernel_rfl) (by kernel_rfl) (by kernel_rfl) (fun _ _ _ h => h) (Or.inl ⟨by rfl, ?_⟩) ?_
                    rotate_left
                    · intro w; go_simp
                      try with_reducible rfl
                    simp only [List.getElem_toArray, List.getElem_cons_zero, List.getElem_cons_succ, Act.put, List.setIfInBounds_toArray, List.set_cons_zero, List.set_cons_succ]
                    refine wpAny_take (i := 11) (v := ?_) rfl (by kernel_rfl) (by kernel_rfl) (by kernel_rfl) (fun _ _ _ h => h) (Or.inl ⟨by rfl, ?_⟩) ?_
                    rotate_left
                    · intro w; go_simp
                      try with_reducible rfl
                    simp only [List.getElem_toArray, List.getElem_cons_zero, List.getElem_cons_succ, Act.put, List.setIfInBounds_toArray, List.set_cons_zero, List.set_cons_succ]
                    refine wpAny_take (i := 12) (v := ?_) rfl (by kernel_rfl) (by kernel_rfl) (by kernel_rfl) (fun _ _ _ h => h) (Or.inl ⟨by rfl, ?_⟩) ?_
                    rotate_left
                    · intro w; go_simp
                      try with_reducible rfl
                    simp only [List.getElem_toArray, List.getElem_cons_zero, List.getElem_cons_succ, Act.put, List.setIfInBounds_toArray, List.set_cons_zero, List.set_cons_succ]
                    refine wpAny_take (i := 3) (v := ?_) rfl (by kernel_rfl) (by kernel_rfl) (by kernel_rfl) (fun _ _ _ h => h) (Or.inl ⟨by rfl, ?_⟩) ?_
                    rotate_left
                    · intro w; go_simp
                      try with_reducible rfl
                    simp only [List.getElem_toArray, List.getElem_cons_zero, List.getElem_cons_succ, Act.put, List.setIfInBounds_toArray, List.set_cons_zero, List.set_cons_succ]
                    refine wpAny_take (i := 13) (v := ?_) rfl (by kernel_rfl) (by kernel_rfl) (by kernel_rfl) (fun _ _ _ h => h) (Or.inl ⟨by rfl, ?_⟩) ?_
                    rotate_left
                    · intro w; go_simp
                      try with_reducible rfl
                    simp only [List.getElem_toArray, List.getElem_cons_zero, List.getElem_cons_succ, Act.put, List.setIfInBounds_toArray, List.set_cons_zero, List.set_cons_succ]
                    refine wpAny_ready (rs := [0, 8]) (by kernel_rfl) (by simp) ?_
                    refine AllReady.cons rfl (fun K hK => ?_) (AllReady.cons rfl (fun K hK => ?_) AllReady.nil)
                    · go_simp
                      refine hK _ _ ?_
                      clear hK K
                      try simp only [List.getElem_toArray, List.getElem_cons_zero, List.getElem_cons_succ, Act.put, List.setIfInBounds_toArray, List.set_cons_zero, List.set_cons_succ]
                      have F1 : Below wr.heap.size wr (W0.alloc (.cells #[] 30)) := F0.alloc F0.size _
                      have A1 : Buf (W0.alloc (.cells #[] 30)) wr.heap.size 1 (.slice (some ⟨W0.heap.size, 0, none⟩) 0 0) 0 [] := empty_buf F0.size _
                      generalize W0.alloc (.cells #[] 30) = W1 at F1 A1 ⊢
                      have la1 := own_lt A1 W0.heap.size rfl
                      generalize W0.heap.size = ga1 at *
                      refine wpAny_ready (rs := [4, 8]) (by kernel_rfl) (by simp) ?_
                      refine AllReady.cons rfl (fun K hK => ?_) (AllReady.cons rfl (fun K hK => ?_) AllReady.nil)
                      · obtain ⟨v2, W2, R2, A2, g2, B2, ow2⟩ := chain_run (c := a) A1 (src_of HSV.out F1 HU1.out a hat).1 F1.size (by omega)
                        have F2 := F1.trans B2
                        have lv2 := own_lt A2
                        rw [if_pos (by rfl)]
                        refine operAppend (.tmp 51) (.tmp 54) _ _ rfl _ _ rfl rfl _ _ R2 ?_
                        refine hK _ _ ?_
                        clear hK K
                        try simp only [List.getElem_toArray, List.getElem_cons_zero, List.getElem_cons_succ, Act.put, List.setIfInBounds_toArray, List.set_cons_zero, List.set_cons_succ]
                        refine wpAny_ready (rs := [8]) (by kernel_rfl) (by simp) ?_
                        refine AllReady.cons rfl (fun K hK => ?_) AllReady.nil
                        have cx3 : W2.cell? ⟨b, o + k, none⟩ = some (.int .u32 x) := (F2.cell (p := ⟨b, o + k, none⟩) hbw).trans cx
                        go_simp
                        refine hK _ _ ?_
                        clear hK K
                        try simp only [List.getElem_toArray, List.getElem_cons_zero, List.getElem_cons_succ, Act.put, List.setIfInBounds_toArray, List.set_cons_zero, List.set_cons_succ]
                        refine wpAny_ready (rs := [9]) (by kernel_rfl) (by simp) ?_
                        refine AllReady.cons rfl (fun K hK => ?_) AllReady.nil
                        go_simp
                        refine hK _ _ ?_
                        clear hK K
                        try simp only [List.getElem_toArray, List.getElem_cons_zero, List.getElem_cons_succ, Act.put, List.setIfInBounds_toArray, List.set_cons_zero, List.set_cons_succ]
                        have F4 : Below wr.heap.size wr (W2.alloc (.cells #[.int .u32 x] 30)) := F2.alloc F2.size _
                        have S4 : Boxed (W2.alloc (.cells #[.int .u32 x] 30)) W2.heap.size 30 (.int .u32 x) := Boxed.new _ _ _
                        have A4 := A2.past (.cells #[.int .u32 x] 30)
                        have ne4 : ∀ j, v2.ownBlock = some j → j ≠ W2.heap.size := fun j e => by have := lv2 j e; omega
                        generalize W2.alloc (.cells #[.int .u32 x] 30) = W4 at F4 S4 A4 ⊢
                        generalize W2.heap.size = gb4 at *
                        refine wpAny_ready (rs := [10]) (by kernel_rfl) (by simp) ?_
                        refine AllReady.cons rfl (fun K hK => ?_) AllReady.nil
                        obtain ⟨v5, W5, R5, A5, g5, B5, ow5⟩ := chain_run (c := 1) A4 (src_one S4) F4.size (by omega)
                        have F5 := F4.trans B5
                        rw [if_pos (by rfl)]
                        refine operAppend (.tmp 55) (.tmp 60) _ _ rfl _ _ rfl rfl _ _ R5 ?_
                        refine hK _ _ ?_
                        clear hK K
                        try simp only [List.getElem_toArray, List.getElem_cons_zero, List.getElem_cons_succ, Act.put, List.setIfInBounds_toArray, List.set_cons_zero, List.set_cons_succ]
                        refine wpAny_ready (rs := [14]) (by kernel_rfl) (by simp) ?_
                        refine AllReady.cons rfl (fun K hK => ?_) AllReady.nil
                        obtain ⟨v6, W6, R6, A6, g6, B6, ow6⟩ := chain_run (c := 0) A5 (src_none W5 _) F5.size (by omega)
                        have F6 := F5.trans B6
                        rw [if_pos (by rfl)]
                        refine operAppend (.tmp 61) (.tmp 64) _ _ rfl _ _ rfl rfl _ _ R6 ?_
                        refine hK _ _ ?_
                        clear hK K
                        try simp only [List.getElem_toArray, List.getElem_cons_zero, List.getElem_cons_succ, Act.put, List.setIfInBounds_toArray, List.set_cons_zero, List.set_cons_succ]
                        refine wpAny_take (i := 15) (v := ?_) rfl (by kernel_rfl) (by kernel_rfl) (by kernel_rfl) (fun _ _ _ h => h) (Or.inl ⟨by rfl, ?_⟩) ?_
                        rotate_left
                        · intro w; go_simp
                          try with_reducible rfl
                        simp only [List.getElem_toArray, List.getElem_cons_zero, List.getElem_cons_succ, Act.put, List.setIfInBounds_toArray, List.set_cons_zero, List.set_cons_succ]
                        refine wpAny_done (by kernel_rfl) ?_ _
                        have HZ := Lib.hid (And.intro A6 F6)
                        clear A6 F6
                        go_wp2_with fail
                        go_roundw
                        case rel =>
                          refine ⟨k + 1, _, by omega, rfl, by go_num, ?_, ?_, HO.out.2.2.2.2.trans (HZ.out.2.mono HO.out.2.2.2.2.size)⟩
                          · have hz := HZ.out.1.mono HO.out.2.2.2.2.size
                            unfold B32
                            rw [HL9.out.1, HL9.out.2]
                            exact hz
                          · intro e; have := HL9.out.2; rw [e] at this; simp at this; try omega
                        case measure => simp [intOf]; omega
                      · have cx7 : W1.cell? ⟨b, o + k, none⟩ = some (.int .u32 x) := (F1.cell (p := ⟨b, o + k, none⟩) hbw).trans cx
                        go_simp
                        refine hK _ _ ?_
                        clear hK K
                        try simp only [List.getElem_toArray, List.getElem_cons_zero, List.getElem_cons_succ, Act.put, List.setIfInBounds_toArray, List.set_cons_zero, List.set_cons_succ]
                        refine wpAny_ready (rs := [4, 9]) (by kernel_rfl) (by simp) ?_
                        refine AllReady.cons rfl (fun K hK => ?_) (AllReady.cons rfl (fun K hK => ?_) AllReady.nil)
                        · obtain ⟨v8, W8, R8, A8, g8, B8, ow8⟩ := chain_run (c := a) A1 (src_of HSV.out F1 HU1.out a hat).1 F1.size (by omega)
                          have F8 := F1.trans B8
                          have lv8 := own_lt A8
                          rw [if_pos (by rfl)]
                          refine operAppend (.tmp 51) (.tmp 54) _ _ rfl _ _ rfl rfl _ _ R8 ?_
                          refine hK _ _ ?_
                          clear hK K
                          try simp only [List.getElem_toArray, List.getElem_cons_zero, List.getElem_cons_succ, Act.put, List.setIfInBounds_toArray, List.set_cons_zero, List.set_cons_succ]
                          refine wpAny_ready (rs := [9]) (by kernel_rfl) (by simp) ?_
                          refine AllReady.cons rfl (fun K hK => ?_) AllReady.nil
                          go_simp
                          refine hK _ _ ?_
                          clear hK K
                          try simp only [List.getElem_toArray, List.getElem_cons_zero, List.getElem_cons_succ, Act.put, List.setIfInBounds_toArray, List.set_cons_zero, List.set_cons_succ]
                          have F9 : Below wr.heap.size wr (W8.alloc (.cells #[.int .u32 x] 30)) := F8.alloc F8.size _
                          have S9 : Boxed (W8.alloc (.cells #[.int .u32 x] 30)) W8.heap.size 30 (.int .u32 x) := Boxed.new _ _ _
                          have A9 := A8.past (.cells #[.int .u32 x] 30)
                          have ne9 : ∀ j, v8.ownBlock = some j → j ≠ W8.heap.size := fun j e => by have := lv8 j e; omega
                          generalize W8.alloc (.cells #[.int .u32 x] 30) = W9 at F9 S9 A9 ⊢
                          generalize W8.heap.size = gb9 at *
                          refine wpAny_ready (rs := [10]) (by kernel_rfl) (by simp) ?_
                          refine AllReady.cons rfl (fun K hK => ?_) AllReady.nil
                          obtain ⟨v10, W10, R10, A10, g10, B10, ow10⟩ := chain_run (c := 1) A9 (src_one S9) F9.size (by omega)
                          have F10 := F9.trans B10
                          rw [if_pos (by rfl)]
                          refine operAppend (.tmp 55) (.tmp 60) _ _ rfl _ _ rfl rfl _ _ R10 ?_
                          refine hK _ _ ?_
                          clear hK K
                          try simp only [List.getElem_toArray, List.getElem_cons_zero, List.getElem_cons_succ, Act.put, List.setIfInBounds_toArray, List.set_cons_zero, List.set_cons_succ]
                          refine wpAny_ready (rs := [14]) (by kernel_rfl) (by simp) ?_
                          refine AllReady.cons rfl (fun K hK => ?_) AllReady.nil
                          obtain ⟨v11, W11, R11, A11, g11, B11, ow11⟩ := chain_run (c := 0) A10 (src_none W10 _) F10.size (by omega)
                          have F11 := F10.trans B11
                          rw [if_pos (by rfl)]
                          refine operAppend (.tmp 61) (.tmp 64) _ _ rfl _ _ rfl rfl _ _ R11 ?_
                          refine hK _ _ ?_
                          clear hK K
                          try simp only [List.getElem_toArray, List.getElem_cons_zero, List.getElem_cons_succ, Act.put, List.setIfInBounds_toArray, List.set_cons_zero, List.set_cons_succ]
                          refine wpAny_take (i := 15) (v := ?_) rfl (by kernel_rfl) (by kernel_rfl) (by kernel_rfl) (fun _ _ _ h => h) (Or.inl ⟨by rfl, ?_⟩) ?_
                          rotate_left
                          · intro w; go_simp
                            try with_reducible rfl
                          simp only [List.getElem_toArray, List.getElem_cons_zero, List.getElem_cons_succ, Act.put, List.setIfInBounds_toArray, List.set_cons_zero, List.set_cons_succ]
                          refine wpAny_done (by kernel_rfl) ?_ _
                          have HZ := Lib.hid (And.intro A11 F11)
                          clear A11 F11
                          go_wp2_with fail
                          go_roundw
                          case rel =>
                            refine ⟨k + 1, _, by omega, rfl, by go_num, ?_, ?_, HO.out.2.2.2.2.trans (HZ.out.2.mono HO.out.2.2.2.2.size)⟩
                            · have hz := HZ.out.1.mono HO.out.2.2.2.2.size
                              unfold B32
                              rw [HL9.out.1, HL9.out.2]
                              exact hz
                            · intro e; have := HL9.out.2; rw [e] at this; simp at this; try omega
                          case measure => simp [intOf]; omega
                        · go_simp
                          refine hK _ _ ?_
                          clear hK K
                          try simp only [List.getElem_toArray, List.getElem_cons_zero, List.getElem_cons_succ, Act.put, List.setIfInBounds_toArray, List.set_cons_zero, List.set_cons_succ]
                          have F12 : Below wr.heap.size wr (W1.alloc (.cells #[.int .u32 x] 30)) := F1.alloc F1.size _
                          have S12 : Boxed (W1.alloc (.cells #[.int .u32 x] 30)) W1.heap.size 30 (.int .u32 x) := Boxed.new _ _ _
                          have A12 := A1.past (.cells #[.int .u32 x] 30)
                          have ne12 : ga1 ≠ W1.heap.size := by have := la1; omega
                          generalize W1.alloc (.cells #[.int .u32 x] 30) = W12 at F12 S12 A12 ⊢
                          generalize W1.heap.size = gb12 at *
                          refine wpAny_ready (rs := [4]) (by kernel_rfl) (by simp) ?_
                          refine AllReady.cons rfl (fun K hK => ?_) AllReady.nil
                          obtain ⟨v13, W13, R13, A13, g13, B13, ow13⟩ := chain_run (c := a) A12 (src_of HSV.out F12 HU1.out a hat).1 F12.size (by omega)
                          have F13 := F12.trans B13
                          have lv13 := own_lt A13
                          have S13 := Boxed.kept S12 g13 (by simpa [Value.ownBlock] using ne12.symm)
                          have ne13 := own_ne ow13 rfl ne12 S12.lt
                          rw [if_pos (by rfl)]
                          refine operAppend (.tmp 51) (.tmp 54) _ _ rfl _ _ rfl rfl _ _ R13 ?_
                          refine hK _ _ ?_
                          clear hK K
                          try simp only [List.getElem_toArray, List.getElem_cons_zero, List.getElem_cons_succ, Act.put, List.setIfInBounds_toArray, List.set_cons_zero, List.set_cons_succ]
                          refine wpAny_ready (rs := [10]) (by kernel_rfl) (by simp) ?_
                          refine AllReady.cons rfl (fun K hK => ?_) AllReady.nil
                          obtain ⟨v14, W14, R14, A14, g14, B14, ow14⟩ := chain_run (c := 1) A13 (src_one S13) F13.size (by omega)
                          have F14 := F13.trans B14
                          rw [if_pos (by rfl)]
                          refine operAppend (.tmp 55) (.tmp 60) _ _ rfl _ _ rfl rfl _ _ R14 ?_
                          refine hK _ _ ?_
                          clear hK K
                          try simp only [List.getElem_toArray, List.getElem_cons_zero, List.getElem_cons_succ, Act.put, List.setIfInBounds_toArray, List.set_cons_zero, List.set_cons_succ]
                          refine wpAny_ready (rs := [14]) (by kernel_rfl) (by simp) ?_
                          refine AllReady.cons rfl (fun K hK => ?_) AllReady.nil
                          obtain ⟨v15, W15, R15, A15, g15, B15, ow15⟩ := chain_run (c := 0) A14 (src_none W14 _) F14.size (by omega)
                          have F15 := F14.trans B15
                          rw [if_pos (by rfl)]
                          refine operAppend (.tmp 61) (.tmp 64) _ _ rfl _ _ rfl rfl _ _ R15 ?_
                          refine hK _ _ ?_
                          clear hK K
                          try simp only [List.getElem_toArray, List.getElem_cons_zero, List.getElem_cons_succ, Act.put, List.setIfInBounds_toArray, List.set_cons_zero, List.set_cons_succ]
                          refine wpAny_take (i := 15) (v := ?_) rfl (by kernel_rfl) (by kernel_rfl) (by kernel_rfl) (fun _ _ _ h => h) (Or.inl ⟨by rfl, ?_⟩) ?_
                          rotate_left
                          · intro w; go_simp
                            try with_reducible rfl
                          simp only [List.getElem_toArray, List.getElem_cons_zero, List.getElem_cons_succ, Act.put, List.setIfInBounds_toArray, List.set_cons_zero, List.set_cons_succ]
                          refine wpAny_done (by kernel_rfl) ?_ _
                          have HZ := Lib.hid (And.intro A15 F15)
                          clear A15 F15
                          go_wp2_with fail
                          go_roundw
                          case rel =>
                            refine ⟨k + 1, _, by omega, rfl, by go_num, ?_, ?_, HO.out.2.2.2.2.trans (HZ.out.2.mono HO.out.2.2.2.2.size)⟩
                            · have hz := HZ.out.1.mono HO.out.2.2.2.2.size
                              unfold B32
                              rw [HL9.out.1, HL9.out.2]
                              exact hz
                            · intro e; have := HL9.out.2; rw [e] at this; simp at this; try omega
                          case measure => simp [intOf]; omega
                    · have cx16 : W0.cell? ⟨b, o + k, none⟩ = some (.int .u32 x) := (F0.cell (p := ⟨b, o + k, none⟩) hbw).trans cx
                      go_simp
                      refine hK _ _ ?_
                      clear hK K
                      try simp only [List.getElem_toArray, List.getElem_cons_zero, List.getElem_cons_succ, Act.put, List.setIfInBounds_toArray, List.set_cons_zero, List.set_cons_succ]
                      refine wpAny_ready (rs := [0, 9]) (by kernel_rfl) (by simp) ?_
                      refine AllReady.cons rfl (fun K hK => ?_) (AllReady.cons rfl (fun K hK => ?_) AllReady.nil)
                      · go_simp
                        refine hK _ _ ?_
                        clear hK K
                        try simp only [List.getElem_toArray, List.getElem_cons_zero, List.getElem_cons_succ, Act.put, List.setIfInBounds_toArray, List.set_cons_zero, List.set_cons_succ]
                        have F17 : Below wr.heap.size wr (W0.alloc (.cells #[] 30)) := F0.alloc F0.size _
                        have A17 : Buf (W0.alloc (.cells #[] 30)) wr.heap.size 1 (.slice (some ⟨W0.heap.size, 0, none⟩) 0 0) 0 [] := empty_buf F0.size _
                        generalize W0.alloc (.cells #[] 30) = W17 at F17 A17 ⊢
                        have la17 := own_lt A17 W0.heap.size rfl
                        generalize W0.heap.size = ga17 at *
                        refine wpAny_ready (rs := [4, 9]) (by kernel_rfl) (by simp) ?_
                        refine AllReady.cons rfl (fun K hK => ?_) (AllReady.cons rfl (fun K hK => ?_) AllReady.nil)
                        · obtain ⟨v18, W18, R18, A18, g18, B18, ow18⟩ := chain_run (c := a) A17 (src_of HSV.out F17 HU1.out a hat).1 F17.size (by omega)
                          have F18 := F17.trans B18
                          have lv18 := own_lt A18
                          rw [if_pos (by rfl)]
                          refine operAppend (.tmp 51) (.tmp 54) _ _ rfl _ _ rfl rfl _ _ R18 ?_
                          refine hK _ _ ?_
                          clear hK K
                          try simp only [List.getElem_toArray, List.getElem_cons_zero, List.getElem_cons_succ, Act.put, List.setIfInBounds_toArray, List.set_cons_zero, List.set_cons_succ]
                          refine wpAny_ready (rs := [9]) (by kernel_rfl) (by simp) ?_
                          refine AllReady.cons rfl (fun K hK => ?_) AllReady.nil
                          go_simp
                          refine hK _ _ ?_
                          clear hK K
                          try simp only [List.getElem_toArray, List.getElem_cons_zero, List.getElem_cons_succ, Act.put, List.setIfInBounds_toArray, List.set_cons_zero, List.set_cons_succ]
                          have F19 : Below wr.heap.size wr (W18.alloc (.cells #[.int .u32 x] 30)) := F18.alloc F18.size _
                          have S19 : Boxed (W18.alloc (.cells #[.int .u32 x] 30)) W18.heap.size 30 (.int .u32 x) := Boxed.new _ _ _
                          have A19 := A18.past (.cells #[.int .u32 x] 30)
                          have ne19 : ∀ j, v18.ownBlock = some j → j ≠ W18.heap.size := fun j e => by have := lv18 j e; omega
                          generalize W18.alloc (.cells #[.int .u32 x] 30) = W19 at F19 S19 A19 ⊢
                          generalize W18.heap.size = gb19 at *
                          refine wpAny_ready (rs := [10]) (by kernel_rfl) (by simp) ?_
                          refine AllReady.cons rfl (fun K hK => ?_) AllReady.nil
                          obtain ⟨v20, W20, R20, A20, g20, B20, ow20⟩ := chain_run (c := 1) A19 (src_one S19) F19.size (by omega)
                          have F20 := F19.trans B20
                          rw [if_pos (by rfl)]
                          refine operAppend (.tmp 55) (.tmp 60) _ _ rfl _ _ rfl rfl _ _ R20 ?_
                          refine hK _ _ ?_
                          clear hK K
                          try simp only [List.getElem_toArray, List.getElem_cons_zero, List.getElem_cons_succ, Act.put, List.setIfInBounds_toArray, List.set_cons_zero, List.set_cons_succ]
                          refine wpAny_ready (rs := [14]) (by kernel_rfl) (by simp) ?_
                          refine AllReady.cons rfl (fun K hK => ?_) AllReady.nil
                          obtain ⟨v21, W21, R21, A21, g21, B21, ow21⟩ := chain_run (c := 0) A20 (src_none W20 _) F20.size (by omega)
                          have F21 := F20.trans B21
                          rw [if_pos (by rfl)]
                          refine operAppend (.tmp 61) (.tmp 64) _ _ rfl _ _ rfl rfl _ _ R21 ?_
                          refine hK _ _ ?_
                          clear hK K
                          try simp only [List.getElem_toArray, List.getElem_cons_zero, List.getElem_cons_succ, Act.put, List.setIfInBounds_toArray, List.set_cons_zero, List.set_cons_succ]
                          refine wpAny_take (i := 15) (v := ?_) rfl (by kernel_rfl) (by kernel_rfl) (by kernel_rfl) (fun _ _ _ h => h) (Or.inl ⟨by rfl, ?_⟩) ?_
                          rotate_left
                          · intro w; go_simp
                            try with_reducible rfl
                          simp only [List.getElem_toArray, List.getElem_cons_zero, List.getElem_cons_succ, Act.put, List.setIfInBounds_toArray, List.set_cons_zero, List.set_cons_succ]
                          refine wpAny_done (by kernel_rfl) ?_ _
                          have HZ := Lib.hid (And.intro A21 F21)
                          clear A21 F21
                          go_wp2_with fail
                          go_roundw
                          case rel =>
                            refine ⟨k + 1, _, by omega, rfl, by go_num, ?_, ?_, HO.out.2.2.2.2.trans (HZ.out.2.mono HO.out.2.2.2.2.size)⟩
                            · have hz := HZ.out.1.mono HO.out.2.2.2.2.size
                              unfold B32
                              rw [HL9.out.1, HL9.out.2]
                              exact hz
                            · intro e; have := HL9.out.2; rw [e] at this; simp at this; try omega
                          case measure => simp [intOf]; omega
                        · go_simp
                          refine hK _ _ ?_
                          clear hK K
                          try simp only [List.getElem_toArray, List.getElem_cons_zero, List.getElem_cons_succ, Act.put, List.setIfInBounds_toArray, List.set_cons_zero, List.set_cons_succ]
                          have F22 : Below wr.heap.size wr (W17.alloc (.cells #[.int .u32 x] 30)) := F17.alloc F17.size _
                          have S22 : Boxed (W17.alloc (.cells #[.int .u32 x] 30)) W17.heap.size 30 (.int .u32 x) := Boxed.new _ _ _
                          have A22 := A17.past (.cells #[.int .u32 x] 30)
                          have ne22 : ga17 ≠ W17.heap.size := by have := la17; omega
                          generalize W17.alloc (.cells #[.int .u32 x] 30) = W22 at F22 S22 A22 ⊢
                          generalize W17.heap.size = gb22 at *
                          refine wpAny_ready (rs := [4]) (by kernel_rfl) (by simp) ?_
                          refine AllReady.cons rfl (fun K hK => ?_) AllReady.nil
                          obtain ⟨v23, W23, R23, A23, g23, B23, ow23⟩ := chain_run (c := a) A22 (src_of HSV.out F22 HU1.out a hat).1 F22.size (by omega)
                          have F23 := F22.trans B23
                          have lv23 := own_lt A23
                          have S23 := Boxed.kept S22 g23 (by simpa [Value.ownBlock] using ne22.symm)
                          have ne23 := own_ne ow23 rfl ne22 S22.lt
                          rw [if_pos (by rfl)]
                          refine operAppend (.tmp 51) (.tmp 54) _ _ rfl _ _ rfl rfl _ _ R23 ?_
                          refine hK _ _ ?_
                          clear hK K
                          try simp only [List.getElem_toArray, List.getElem_cons_zero, List.getElem_cons_succ, Act.put, List.setIfInBounds_toArray, List.set_cons_zero, List.set_cons_succ]
                          refine wpAny_ready (rs := [10]) (by kernel_rfl) (by simp) ?_
                          refine AllReady.cons rfl (fun K hK => ?_) AllReady.nil
                          obtain ⟨v24, W24, R24, A24, g24, B24, ow24⟩ := chain_run (c := 1) A23 (src_one S23) F23.size (by omega)
                          have F24 := F23.trans B24
                          rw [if_pos (by rfl)]
                          refine operAppend (.tmp 55) (.tmp 60) _ _ rfl _ _ rfl rfl _ _ R24 ?_
                          refine hK _ _ ?_
                          clear hK K
                          try simp only [List.getElem_toArray, List.getElem_cons_zero, List.getElem_cons_succ, Act.put, List.setIfInBounds_toArray, List.set_cons_zero, List.set_cons_succ]
                          refine wpAny_ready (rs := [14]) (by kernel_rfl) (by simp) ?_
                          refine AllReady.cons rfl (fun K hK => ?_) AllReady.nil
                          obtain ⟨v25, W25, R25, A25, g25, B25, ow25⟩ := chain_run (c := 0) A24 (src_none W24 _) F24.size (by omega)
                          have F25 := F24.trans B25
                          rw [if_pos (by rfl)]
                          refine operAppend (.tmp 61) (.tmp 64) _ _ rfl _ _ rfl rfl _ _ R25 ?_
                          refine hK _ _ ?_
                          clear hK K
                          try simp only [List.getElem_toArray, List.getElem_cons_zero, List.getElem_cons_succ, Act.put, List.setIfInBounds_toArray, List.set_cons_zero, List.set_cons_succ]
                          refine wpAny_take (i := 15) (v := ?_) rfl (by kernel_rfl) (by kernel_rfl) (by kernel_rfl) (fun _ _ _ h => h) (Or.inl ⟨by rfl, ?_⟩) ?_
                          rotate_left
                          · intro w; go_simp
                            try with_reducible rfl
                          simp only [List.getElem_toArray, List.getElem_cons_zero, List.getElem_cons_succ, Act.put, List.setIfInBounds_toArray, List.set_cons_zero, List.set_cons_succ]
                          refine wpAny_done (by kernel_rfl) ?_ _
                          have HZ := Lib.hid (And.intro A25 F25)
                          clear A25 F25
                          go_wp2_with fail
                          go_roundw
                          case rel =>
                            refine ⟨k + 1, _, by omega, rfl, by go_num, ?_, ?_, HO.out.2.2.2.2.trans (HZ.out.2.mono HO.out.2.2.2.2.size)⟩
                            · have hz := HZ.out.1.mono HO.out.2.2.2.2.size
                              unfold B32
                              rw [HL9.out.1, HL9.out.2]
                              exact hz
                            · intro e; have := HL9.out.2; rw [e] at this; simp at this; try omega
                          case measure => simp [intOf]; omega
                      · go_simp
                        refine hK _ _ ?_
                        clear hK K
                        try simp only [List.getElem_toArray, List.getElem_cons_zero, List.getElem_cons_succ, Act.put, List.setIfInBounds_toArray, List.set_cons_zero, List.set_cons_succ]
                        have F26 : Below wr.heap.size wr (W0.alloc (.cells #[.int .u32 x] 30)) := F0.alloc F0.size _
                        have S26 : Boxed (W0.alloc (.cells #[.int .u32 x] 30)) W0.heap.size 30 (.int .u32 x) := Boxed.new _ _ _
                        generalize W0.alloc (.cells #[.int .u32 x] 30) = W26 at F26 S26 ⊢
                        generalize W0.heap.size = gb26 at *
                        refine wpAny_ready (rs := [0]) (by kernel_rfl) (by simp) ?_
                        refine AllReady.cons rfl (fun K hK => ?_) AllReady.nil
                        go_simp
                        refine hK _ _ ?_
                        clear hK K
                        try simp only [List.getElem_toArray, List.getElem_cons_zero, List.getElem_cons_succ, Act.put, List.setIfInBounds_toArray, List.set_cons_zero, List.set_cons_succ]
                        have F27 : Below wr.heap.size wr (W26.alloc (.cells #[] 30)) := F26.alloc F26.size _
                        have A27 : Buf (W26.alloc (.cells #[] 30)) wr.heap.size 1 (.slice (some ⟨W26.heap.size, 0, none⟩) 0 0) 0 [] := empty_buf F26.size _
                        have S27 := (Boxed.alloc S26 (.cells #[] 30))
                        have ne27 : W26.heap.size ≠ gb26 := by have := S26.lt; omega
                        generalize W26.alloc (.cells #[] 30) = W27 at F27 A27 S27 ⊢
                        have la27 := own_lt A27 W26.heap.size rfl
                        generalize W26.heap.size = ga27 at *
                        refine wpAny_ready (rs := [4]) (by kernel_rfl) (by simp) ?_
                        refine AllReady.cons rfl (fun K hK => ?_) AllReady.nil
                        obtain ⟨v28, W28, R28, A28, g28, B28, ow28⟩ := chain_run (c := a) A27 (src_of HSV.out F27 HU1.out a hat).1 F27.size (by omega)
                        have F28 := F27.trans B28
                        have lv28 := own_lt A28
                        have S28 := Boxed.kept S27 g28 (by simpa [Value.ownBlock] using ne27.symm)
                        have ne28 := own_ne ow28 rfl ne27 S27.lt
                        rw [if_pos (by rfl)]
                        refine operAppend (.tmp 51) (.tmp 54) _ _ rfl _ _ rfl rfl _ _ R28 ?_
                        refine hK _ _ ?_
                        clear hK K
                        try simp only [List.getElem_toArray, List.getElem_cons_zero, List.getElem_cons_succ, Act.put, List.setIfInBounds_toArray, List.set_cons_zero, List.set_cons_succ]
                        refine wpAny_ready (rs := [10]) (by kernel_rfl) (by simp) ?_
                        refine AllReady.cons rfl (fun K hK => ?_) AllReady.nil
                        obtain ⟨v29, W29, R29, A29, g29, B29, ow29⟩ := chain_run (c := 1) A28 (src_one S28) F28.size (by omega)
                        have F29 := F28.trans B29
                        rw [if_pos (by rfl)]
                        refine operAppend (.tmp 55) (.tmp 60) _ _ rfl _ _ rfl rfl _ _ R29 ?_
                        refine hK _ _ ?_
                        clear hK K
                        try simp only [List.getElem_toArray, List.getElem_cons_zero, List.getElem_cons_succ, Act.put, List.setIfInBounds_toArray, List.set_cons_zero, List.set_cons_succ]
                        refine wpAny_ready (rs := [14]) (by kernel_rfl) (by simp) ?_
                        refine AllReady.cons rfl (fun K hK => ?_) AllReady.nil
                        obtain ⟨v30, W30, R30, A30, g30, B30, ow30⟩ := chain_run (c := 0) A29 (src_none W29 _) F29.size (by omega)
                        have F30 := F29.trans B30
                        rw [if_pos (by rfl)]
                        refine operAppend (.tmp 61) (.tmp 64) _ _ rfl _ _ rfl rfl _ _ R30 ?_
                        refine hK _ _ ?_
                        clear hK K
                        try simp only [List.getElem_toArray, List.getElem_cons_zero, List.getElem_cons_succ, Act.put, List.setIfInBounds_toArray, List.set_cons_zero, List.set_cons_succ]
                        refine wpAny_take (i := 15) (v := ?_) rfl (by kernel_rfl) (by kernel_rfl) (by kernel_rfl) (fun _ _ _ h => h) (Or.inl ⟨by rfl, ?_⟩) ?_
                        rotate_left
                        · intro w; go_simp
                          try with_reducible rfl
                        simp only [List.getElem_toArray, List.getElem_cons_zero, List.getElem_cons_succ, Act.put, List.setIfInBounds_toArray, List.set_cons_zero, List.set_cons_succ]
                        refine wpAny_done (by kernel_rfl) ?_ _
                        have HZ := Lib.hid (And.intro A30 F30)
                        clear A30 F30
                        go_wp2_with fail
                        go_roundw
                        case rel =>
                          refine ⟨k + 1, _, by omega, rfl, by go_num, ?_, ?_, HO.out.2.2.2.2.trans (HZ.out.2.mono HO.out.2.2.2.2.size)⟩
                          · have hz := HZ.out.1.mono HO.out.2.2.2.2.size
                            unfold B32
                            rw [HL9.out.1, HL9.out.2]
                            exact hz
                          · intro e; have := HL9.out.2; rw [e] at this; simp at this; try omega
                        case measure => simp [intOf]; omega
                  · have hsub : ¬ (cp - a = 0) := by omega
                    have hacp : a ≤ cp := by omega
                    have hcpne : ¬ (cp = a) := by omega
                    have HL9 := Lib.hid HI.out
                    refine wp_region_any (by kernel_rfl) ?_
                    change wpAny _ _ _ _ _ _ _ (World.drew _)
                    refine gen_world (M := fun W => wpAny _ _ _ _ _ _ _ W) (fun W0 F0 => ?_) (w := wr) ⟨rfl, rfl, rfl, Nat.le_refl _, fun _ _ => rfl⟩
                    change wpAny _ _ _ _ _ _ _ W0
                    refine wpAny_take (i := 1) (v := ?_) rfl (by kernel_rfl) (by kernel_rfl) (by kernel_rfl) (fun _ _ _ h => h) (Or.inl ⟨by rfl, ?_⟩) ?_
                    rotate_left
                    · intro w; go_simp
                      try with_reducible rfl
                    simp only [List.getElem_toArray, List.getElem_cons_zero, List.getElem_cons_succ, Act.put, List.setIfInBounds_toArray, List.set_cons_zero, List.set_cons_succ]
                    refine wpAny_take (i := 2) (v := ?_) rfl (by kernel_rfl) (by kernel_rfl) (by kernel_rfl) (fun _ _ _ h => h) (Or.inl ⟨by rfl, ?_⟩) ?_
                    rotate_left
                    · intro w; go_simp
                      try with_reducible rfl
                    simp only [List.getElem_toArray, List.getElem_cons_zero, List.getElem_cons_succ, Act.put, List.setIfInBounds_toArray, List.set_cons_zero, List.set_cons_succ]
                    refine wpAny_take (i := 5) (v := ?_) rfl (by kernel_rfl) (by kernel_rfl) (by kernel_rfl) (fun _ _ _ h => h) (Or.inl ⟨by rfl, ?_⟩) ?_
                    rotate_left
                    · intro w; go_simp
                      try with_reducible rfl
                    simp only [List.getElem_toArray, List.getElem_cons_zero, List.getElem_cons_succ, Act.put, List.setIfInBounds_toArray, List.set_cons_zero, List.set_cons_succ]
                    refine wpAny_take (i := 6) (v := ?_) rfl (by kernel_rfl) (by kernel_rfl) (by kernel_rfl) (fun _ _ _ h => h) (Or.inl ⟨by rfl, ?_⟩) ?_
                    rotate_left
                    · intro w; go_simp
                      try with_reducible rfl
                    simp only [List.getElem_toArray, List.getElem_cons_zero, List.getElem_cons_succ, Act.put, List.setIfInBounds_toArray, List.set_cons_zero, List.set_cons_succ]
                    refine wpAny_take (i := 7) (v := ?_) rfl (by kernel_rfl) (by kernel_rfl) (by kernel_rfl) (fun _ _ _ h => h) (Or.inl ⟨by rfl, ?_⟩) ?_
                    rotate_left
                    · intro w; go_simp
                      try with_reducible rfl
                    simp only [List.getElem_toArray, List.getElem_cons_zero, List.getElem_cons_succ, Act.put, List.setIfInBounds_toArray, List.set_cons_zero, List.set_cons_succ]
                    refine wpAny_take (i := 11) (v := ?_) rfl (by kernel_rfl) (by kernel_rfl) (by kernel_rfl) (fun _ _ _ h => h) (Or.inl ⟨by rfl, ?_⟩) ?_
                    rotate_left
                    · intro w; go_simp
                      try with_reducible rfl
                    simp only [List.getElem_toArray, List.getElem_cons_zero, List.getElem_cons_succ, Act.put, List.setIfInBounds_toArray, List.set_cons_zero, List.set_cons_succ]
                    refine wpAny_take (i := 12) (v := ?_) rfl (by kernel_rfl) (by kernel_rfl) (by kernel_rfl) (fun _ _ _ h => h) (Or.inl ⟨by rfl, ?_⟩) ?_
                    rotate_left
                    · intro w; go_simp
                      try with_reducible rfl
                    simp only [List.getElem_toArray, List.getElem_cons_zero, List.getElem_cons_succ, Act.put, List.setIfInBounds_toArray, List.set_cons_zero, List.set_cons_succ]
                    refine wpAny_take (i := 3) (v := ?_) rfl (by kernel_rfl) (by kernel_rfl) (by kernel_rfl) (fun _ _ _ h => h) (Or.inl ⟨by rfl, ?_⟩) ?_
                    rotate_left
                    · intro w; go_simp
                      try with_reducible rfl
                    simp only [List.getElem_toArray, List.getElem_cons_zero, List.getElem_cons_succ, Act.put, List.setIfInBounds_toArray, List.set_cons_zero, List.set_cons_succ]
                    refine wpAny_take (i := 13) (v := ?_) rfl (by kernel_rfl) (by kernel_rfl) (by kernel_rfl) (fun _ _ _ h => h) (Or.inl ⟨by rfl, ?_⟩) ?_
                    rotate_left
                    · intro w; go_simp
                      try with_reducible rfl
                    simp only [List.getElem_toArray, List.getElem_cons_zero, List.getElem_cons_succ, Act.put, List.setIfInBounds_toArray, List.set_cons_zero, List.set_cons_succ]
                    refine wpAny_ready (rs := [0, 8]) (by kernel_rfl) (by simp) ?_
                    refine AllReady.cons rfl (fun K hK => ?_) (AllReady.cons rfl (fun K hK => ?_) AllReady.nil)
                    · go_simp
                      refine hK _ _ ?_
                      clear hK K
                      try simp only [List.getElem_toArray, List.getElem_cons_zero, List.getElem_cons_succ, Act.put, List.setIfInBounds_toArray, List.set_cons_zero, List.set_cons_succ]
                      have F1 : Below wr.heap.size wr (W0.alloc (.cells #[] 30)) := F0.alloc F0.size _
                      have A1 : Buf (W0.alloc (.cells #[] 30)) wr.heap.size 1 (.slice (some ⟨W0.heap.size, 0, none⟩) 0 0) 0 [] := empty_buf F0.size _
                      generalize W0.alloc (.cells #[] 30) = W1 at F1 A1 ⊢
                      have la1 := own_lt A1 W0.heap.size rfl
                      generalize W0.heap.size = ga1 at *
                      refine wpAny_ready (rs := [4, 8]) (by kernel_rfl) (by simp) ?_
                      refine AllReady.cons rfl (fun K hK => ?_) (AllReady.cons rfl (fun K hK => ?_) AllReady.nil)
                      · obtain ⟨v2, W2, R2, A2, g2, B2, ow2⟩ := chain_run (c := cp) A1 (src_of HSV.out F1 HU1.out a hat).1 F1.size (by omega)
                        have F2 := F1.trans B2
                        have lv2 := own_lt A2
                        rw [if_pos (by rfl)]
                        refine operAppend (.tmp 51) (.tmp 54) _ _ rfl _ _ rfl rfl _ _ R2 ?_
                        refine hK _ _ ?_
                        clear hK K
                        try simp only [List.getElem_toArray, List.getElem_cons_zero, List.getElem_cons_succ, Act.put, List.setIfInBounds_toArray, List.set_cons_zero, List.set_cons_succ]
                        refine wpAny_ready (rs := [8]) (by kernel_rfl) (by simp) ?_
                        refine AllReady.cons rfl (fun K hK => ?_) AllReady.nil
                        have cx3 : W2.cell? ⟨b, o + k, none⟩ = some (.int .u32 x) := (F2.cell (p := ⟨b, o + k, none⟩) hbw).trans cx
                        go_simp
                        refine hK _ _ ?_
                        clear hK K
                        try simp only [List.getElem_toArray, List.getElem_cons_zero, List.getElem_cons_succ, Act.put, List.setIfInBounds_toArray, List.set_cons_zero, List.set_cons_succ]
                        refine wpAny_ready (rs := [9]) (by kernel_rfl) (by simp) ?_
                        refine AllReady.cons rfl (fun K hK => ?_) AllReady.nil
                        go_simp
                        refine hK _ _ ?_
                        clear hK K
                        try simp only [List.getElem_toArray, List.getElem_cons_zero, List.getElem_cons_succ, Act.put, List.setIfInBounds_toArray, List.set_cons_zero, List.set_cons_succ]
                        have F4 : Below wr.heap.size wr (W2.alloc (.cells #[.int .u32 x] 30)) := F2.alloc F2.size _
                        have S4 : Boxed (W2.alloc (.cells #[.int .u32 x] 30)) W2.heap.size 30 (.int .u32 x) := Boxed.new _ _ _
                        have A4 := A2.past (.cells #[.int .u32 x] 30)
                        have ne4 : ∀ j, v2.ownBlock = some j → j ≠ W2.heap.size := fun j e => by have := lv2 j e; omega
                        generalize W2.alloc (.cells #[.int .u32 x] 30) = W4 at F4 S4 A4 ⊢
                        generalize W2.heap.size = gb4 at *
                        refine wpAny_ready (rs := [10]) (by kernel_rfl) (by simp) ?_
                        refine AllReady.cons rfl (fun K hK => ?_) AllReady.nil
                        obtain ⟨v5, W5, R5, A5, g5, B5, ow5⟩ := chain_run (c := 1) A4 (src_one S4) F4.size (by omega)
                        have F5 := F4.trans B5
                        rw [if_pos (by rfl)]
                        refine operAppend (.tmp 55) (.tmp 60) _ _ rfl _ _ rfl rfl _ _ R5 ?_
                        refine hK _ _ ?_
                        clear hK K
                        try simp only [List.getElem_toArray, List.getElem_cons_zero, List.getElem_cons_succ, Act.put, List.setIfInBounds_toArray, List.set_cons_zero, List.set_cons_succ]
                        refine wpAny_ready (rs := [14]) (by kernel_rfl) (by simp) ?_
                        refine AllReady.cons rfl (fun K hK => ?_) AllReady.nil
                        obtain ⟨v6, W6, R6, A6, g6, B6, ow6⟩ := chain_run (c := (cp - a)) A5 (src_of HSV.out F5 HU1.out a hat).2 F5.size (by omega)
                        have F6 := F5.trans B6
                        rw [if_pos (by rfl)]
                        refine operAppend (.tmp 61) (.tmp 64) _ _ rfl _ _ rfl rfl _ _ R6 ?_
                        refine hK _ _ ?_
                        clear hK K
                        try simp only [List.getElem_toArray, List.getElem_cons_zero, List.getElem_cons_succ, Act.put, List.setIfInBounds_toArray, List.set_cons_zero, List.set_cons_succ]
                        refine wpAny_take (i := 15) (v := ?_) rfl (by kernel_rfl) (by kernel_rfl) (by kernel_rfl) (fun _ _ _ h => h) (Or.inl ⟨by rfl, ?_⟩) ?_
                        rotate_left
                        · intro w; go_simp
                          try with_reducible rfl
                        simp only [List.getElem_toArray, List.getElem_cons_zero, List.getElem_cons_succ, Act.put, List.setIfInBounds_toArray, List.set_cons_zero, List.set_cons_succ]
                        refine wpAny_done (by kernel_rfl) ?_ _
                        have HZ := Lib.hid (And.intro A6 F6)
                        clear A6 F6
                        go_wp2_with fail
                        go_roundw
                        case rel =>
                          refine ⟨k + 1, _, by omega, rfl, by go_num, ?_, ?_, HO.out.2.2.2.2.trans (HZ.out.2.mono HO.out.2.2.2.2.size)⟩
                          · have hz := HZ.out.1.mono HO.out.2.2.2.2.size
                            unfold B32
                            rw [HL9.out.1, HL9.out.2]
                            exact hz
                          · intro e; have := HL9.out.2; rw [e] at this; simp at this; try omega
                        case measure => simp [intOf]; omega
                      · have cx7 : W1.cell? ⟨b, o + k, none⟩ = some (.int .u32 x) := (F1.cell (p := ⟨b, o + k, none⟩) hbw).trans cx
                        go_simp
                        refine hK _ _ ?_
                        clear hK K
                        try simp only [List.getElem_toArray, List.getElem_cons_zero, List.getElem_cons_succ, Act.put, List.setIfInBounds_toArray, List.set_cons_zero, List.set_cons_succ]
                        refine wpAny_ready (rs := [4, 9]) (by kernel_rfl) (by simp) ?_
                        refine AllReady.cons rfl (fun K hK => ?_) (AllReady.cons rfl (fun K hK => ?_) AllReady.nil)
                        · obtain ⟨v8, W8, R8, A8, g8, B8, ow8⟩ := chain_run (c := cp) A1 (src_of HSV.out F1 HU1.out a hat).1 F1.size (by omega)
                          have F8 := F1.trans B8
                          have lv8 := own_lt A8
                          rw [if_pos (by rfl)]
                          refine operAppend (.tmp 51) (.tmp 54) _ _ rfl _ _ rfl rfl _ _ R8 ?_
                          refine hK _ _ ?_
                          clear hK K
                          try simp only [List.getElem_toArray, List.getElem_cons_zero, List.getElem_cons_succ, Act.put, List.setIfInBounds_toArray, List.set_cons_zero, List.set_cons_succ]
                          refine wpAny_ready (rs := [9]) (by kernel_rfl) (by simp) ?_
                          refine AllReady.cons rfl (fun K hK => ?_) AllReady.nil
                          go_simp
                          refine hK _ _ ?_
                          clear hK K
                          try simp only [List.getElem_toArray, List.getElem_cons_zero, List.getElem_cons_succ, Act.put, List.setIfInBounds_toArray, List.set_cons_zero, List.set_cons_succ]
                          have F9 : Below wr.heap.size wr (W8.alloc (.cells #[.int .u32 x] 30)) := F8.alloc F8.size _
                          have S9 : Boxed (W8.alloc (.cells #[.int .u32 x] 30)) W8.heap.size 30 (.int .u32 x) := Boxed.new _ _ _
                          have A9 := A8.past (.cells #[.int .u32 x] 30)
                          have ne9 : ∀ j, v8.ownBlock = some j → j ≠ W8.heap.size := fun j e => by have := lv8 j e; omega
                          generalize W8.alloc (.cells #[.int .u32 x] 30) = W9 at F9 S9 A9 ⊢
                          generalize W8.heap.size = gb9 at *
                          refine wpAny_ready (rs := [10]) (by kernel_rfl) (by simp) ?_
                          refine AllReady.cons rfl (fun K hK => ?_) AllReady.nil
                          obtain ⟨v10, W10, R10, A10, g10, B10, ow10⟩ := chain_run (c := 1) A9 (src_one S9) F9.size (by omega)
                          have F10 := F9.trans B10
                          rw [if_pos (by rfl)]
                          refine operAppend (.tmp 55) (.tmp 60) _ _ rfl _ _ rfl rfl _ _ R10 ?_
                          refine hK _ _ ?_
                          clear hK K
                          try simp only [List.getElem_toArray, List.getElem_cons_zero, List.getElem_cons_succ, Act.put, List.setIfInBounds_toArray, List.set_cons_zero, List.set_cons_succ]
                          refine wpAny_ready (rs := [14]) (by kernel_rfl) (by simp) ?_
                          refine AllReady.cons rfl (fun K hK => ?_) AllReady.nil
                          obtain ⟨v11, W11, R11, A11, g11, B11, ow11⟩ := chain_run (c := (cp - a)) A10 (src_of HSV.out F10 HU1.out a hat).2 F10.size (by omega)
                          have F11 := F10.trans B11
                          rw [if_pos (by rfl)]
                          refine operAppend (.tmp 61) (.tmp 64) _ _ rfl _ _ rfl rfl _ _ R11 ?_
                          refine hK _ _ ?_
                          clear hK K
                          try simp only [List.getElem_toArray, List.getElem_cons_zero, List.getElem_cons_succ, Act.put, List.setIfInBounds_toArray, List.set_cons_zero, List.set_cons_succ]
                          refine wpAny_take (i := 15) (v := ?_) rfl (by kernel_rfl) (by kernel_rfl) (by kernel_rfl) (fun _ _ _ h => h) (Or.inl ⟨by rfl, ?_⟩) ?_
                          rotate_left
                          · intro w; go_simp
                            try with_reducible rfl
                          simp only [List.getElem_toArray, List.getElem_cons_zero, List.getElem_cons_succ, Act.put, List.setIfInBounds_toArray, List.set_cons_zero, List.set_cons_succ]
                          refine wpAny_done (by kernel_rfl) ?_ _
                          have HZ := Lib.hid (And.intro A11 F11)
                          clear A11 F11
                          go_wp2_with fail
                          go_roundw
                          case rel =>
                            refine ⟨k + 1, _, by omega, rfl, by go_num, ?_, ?_, HO.out.2.2.2.2.trans (HZ.out.2.mono HO.out.2.2.2.2.size)⟩
                            · have hz := HZ.out.1.mono HO.out.2.2.2.2.size
                              unfold B32
                              rw [HL9.out.1, HL9.out.2]
                              exact hz
                            · intro e; have := HL9.out.2; rw [e] at this; simp at this; try omega
                          case measure => simp [intOf]; omega
                        · go_simp
                          refine hK _ _ ?_
                          clear hK K
                          try simp only [List.getElem_toArray, List.getElem_cons_zero, List.getElem_cons_succ, Act.put, List.setIfInBounds_toArray, List.set_cons_zero, List.set_cons_succ]
                          have F12 : Below wr.heap.size wr (W1.alloc (.cells #[.int .u32 x] 30)) := F1.alloc F1.size _
                          have S12 : Boxed (W1.alloc (.cells #[.int .u32 x] 30)) W1.heap.size 30 (.int .u32 x) := Boxed.new _ _ _
                          have A12 := A1.past (.cells #[.int .u32 x] 30)
                          have ne12 : ga1 ≠ W1.heap.size := by have := la1; omega
                          generalize W1.alloc (.cells #[.int .u32 x] 30) = W12 at F12 S12 A12 ⊢
                          generalize W1.heap.size = gb12 at *
                          refine wpAny_ready (rs := [4]) (by kernel_rfl) (by simp) ?_
                          refine AllReady.cons rfl (fun K hK => ?_) AllReady.nil
                          obtain ⟨v13, W13, R13, A13, g13, B13, ow13⟩ := chain_run (c := cp) A12 (src_of HSV.out F12 HU1.out a hat).1 F12.size (by omega)
                          have F13 := F12.trans B13
                          have lv13 := own_lt A13
                          have S13 := Boxed.kept S12 g13 (by simpa [Value.ownBlock] using ne12.symm)
                          have ne13 := own_ne ow13 rfl ne12 S12.lt
                          rw [if_pos (by rfl)]
                          refine operAppend (.tmp 51) (.tmp 54) _ _ rfl _ _ rfl rfl _ _ R13 ?_
                          refine hK _ _ ?_
                          clear hK K
                          try simp only [List.getElem_toArray, List.getElem_cons_zero, List.getElem_cons_succ, Act.put, List.setIfInBounds_toArray, List.set_cons_zero, List.set_cons_succ]
                          refine wpAny_ready (rs := [10]) (by kernel_rfl) (by simp) ?_
                          refine AllReady.cons rfl (fun K hK => ?_) AllReady.nil
                          obtain ⟨v14, W14, R14, A14, g14, B14, ow14⟩ := chain_run (c := 1) A13 (src_one S13) F13.size (by omega)
                          have F14 := F13.trans B14
                          rw [if_pos (by rfl)]
                          refine operAppend (.tmp 55) (.tmp 60) _ _ rfl _ _ rfl rfl _ _ R14 ?_
                          refine hK _ _ ?_
                          clear hK K
                          try simp only [List.getElem_toArray, List.getElem_cons_zero, List.getElem_cons_succ, Act.put, List.setIfInBounds_toArray, List.set_cons_zero, List.set_cons_succ]
                          refine wpAny_ready (rs := [14]) (by kernel_rfl) (by simp) ?_
                          refine AllReady.cons rfl (fun K hK => ?_) AllReady.nil
                          obtain ⟨v15, W15, R15, A15, g15, B15, ow15⟩ := chain_run (c := (cp - a)) A14 (src_of HSV.out F14 HU1.out a hat).2 F14.size (by omega)
                          have F15 := F14.trans B15
                          rw [if_pos (by rfl)]
                          refine operAppend (.tmp 61) (.tmp 64) _ _ rfl _ _ rfl rfl _ _ R15 ?_
                          refine hK _ _ ?_
                          clear hK K
                          try simp only [List.getElem_toArray, List.getElem_cons_zero, List.getElem_cons_succ, Act.put, List.setIfInBounds_toArray, List.set_cons_zero, List.set_cons_succ]
                          refine wpAny_take (i := 15) (v := ?_) rfl (by kernel_rfl) (by kernel_rfl) (by kernel_rfl) (fun _ _ _ h => h) (Or.inl ⟨by rfl, ?_⟩) ?_
                          rotate_left
                          · intro w; go_simp
                            try with_reducible rfl
                          simp only [List.getElem_toArray, List.getElem_cons_zero, List.getElem_cons_succ, Act.put, List.setIfInBounds_toArray, List.set_cons_zero, List.set_cons_succ]
                          refine wpAny_done (by kernel_rfl) ?_ _
                          have HZ := Lib.hid (And.intro A15 F15)
                          clear A15 F15
                          go_wp2_with fail
                          go_roundw
                          case rel =>
                            refine ⟨k + 1, _, by omega, rfl, by go_num, ?_, ?_, HO.out.2.2.2.2.trans (HZ.out.2.mono HO.out.2.2.2.2.size)⟩
                            · have hz := HZ.out.1.mono HO.out.2.2.2.2.size
                              unfold B32
                              rw [HL9.out.1, HL9.out.2]
                              exact hz
                            · intro e; have := HL9.out.2; rw [e] at this; simp at this; try omega
                          case measure => simp [intOf]; omega
                    · have cx16 : W0.cell? ⟨b, o + k, none⟩ = some (.int .u32 x) := (F0.cell (p := ⟨b, o + k, none⟩) hbw).trans cx
                      go_simp
                      refine hK _ _ ?_
                      clear hK K
                      try simp only [List.getElem_toArray, List.getElem_cons_zero, List.getElem_cons_succ, Act.put, List.setIfInBounds_toArray, List.set_cons_zero, List.set_cons_succ]
                      refine wpAny_ready (rs := [0, 9]) (by kernel_rfl) (by simp) ?_
                      refine AllReady.cons rfl (fun K hK => ?_) (AllReady.cons rfl (fun K hK => ?_) AllReady.nil)
                      · go_simp
                        refine hK _ _ ?_
                        clear hK K
                        try simp only [List.getElem_toArray, List.getElem_cons_zero, List.getElem_cons_succ, Act.put, List.setIfInBounds_toArray, List.set_cons_zero, List.set_cons_succ]
                        have F17 : Below wr.heap.size wr (W0.alloc (.cells #[] 30)) := F0.alloc F0.size _
                        have A17 : Buf (W0.alloc (.cells #[] 30)) wr.heap.size 1 (.slice (some ⟨W0.heap.size, 0, none⟩) 0 0) 0 [] := empty_buf F0.size _
                        generalize W0.alloc (.cells #[] 30) = W17 at F17 A17 ⊢
                        have la17 := own_lt A17 W0.heap.size rfl
                        generalize W0.heap.size = ga17 at *
                        refine wpAny_ready (rs := [4, 9]) (by kernel_rfl) (by simp) ?_
                        refine AllReady.cons rfl (fun K hK => ?_) (AllReady.cons rfl (fun K hK => ?_) AllReady.nil)
                        · obtain ⟨v18, W18, R18, A18, g18, B18, ow18⟩ := chain_run (c := cp) A17 (src_of HSV.out F17 HU1.out a hat).1 F17.size (by omega)
                          have F18 := F17.trans B18
                          have lv18 := own_lt A18
                          rw [if_pos (by rfl)]
                          refine operAppend (.tmp 51) (.tmp 54) _ _ rfl _ _ rfl rfl _ _ R18 ?_
                          refine hK _ _ ?_
                          clear hK K
                          try simp only [List.getElem_toArray, List.getElem_cons_zero, List.getElem_cons_succ, Act.put, List.setIfInBounds_toArray, List.set_cons_zero, List.set_cons_succ]
                          refine wpAny_ready (rs := [9]) (by kernel_rfl) (by simp) ?_
                          refine AllReady.cons rfl (fun K hK => ?_) AllReady.nil
                          go_simp
                          refine hK _ _ ?_
                          clear hK K
                          try simp only [List.getElem_toArray, List.getElem_cons_zero, List.getElem_cons_succ, Act.put, List.setIfInBounds_toArray, List.set_cons_zero, List.set_cons_succ]
                          have F19 : Below wr.heap.size wr (W18.alloc (.cells #[.int .u32 x] 30)) := F18.alloc F18.size _
                          have S19 : Boxed (W18.alloc (.cells #[.int .u32 x] 30)) W18.heap.size 30 (.int .u32 x) := Boxed.new _ _ _
                          have A19 := A18.past (.cells #[.int .u32 x] 30)
                          have ne19 : ∀ j, v18.ownBlock = some j → j ≠ W18.heap.size := fun j e => by have := lv18 j e; omega
                          generalize W18.alloc (.cells #[.int .u32 x] 30) = W19 at F19 S19 A19 ⊢
                          generalize W18.heap.size = gb19 at *
                          refine wpAny_ready (rs := [10]) (by kernel_rfl) (by simp) ?_
                          refine AllReady.cons rfl (fun K hK => ?_) AllReady.nil
                          obtain ⟨v20, W20, R20, A20, g20, B20, ow20⟩ := chain_run (c := 1) A19 (src_one S19) F19.size (by omega)
                          have F20 := F19.trans B20
                          rw [if_pos (by rfl)]
                          refine operAppend (.tmp 55) (.tmp 60) _ _ rfl _ _ rfl rfl _ _ R20 ?_
                          refine hK _ _ ?_
                          clear hK K
                          try simp only [List.getElem_toArray, List.getElem_cons_zero, List.getElem_cons_succ, Act.put, List.setIfInBounds_toArray, List.set_cons_zero, List.set_cons_succ]
                          refine wpAny_ready (rs := [14]) (by kernel_rfl) (by simp) ?_
                          refine AllReady.cons rfl (fun K hK => ?_) AllReady.nil
                          obtain ⟨v21, W21, R21, A21, g21, B21, ow21⟩ := chain_run (c := (cp - a)) A20 (src_of HSV.out F20 HU1.out a hat).2 F20.size (by omega)
                          have F21 := F20.trans B21
                          rw [if_pos (by rfl)]
                          refine operAppend (.tmp 61) (.tmp 64) _ _ rfl _ _ rfl rfl _ _ R21 ?_
                          refine hK _ _ ?_
                          clear hK K
                          try simp only [List.getElem_toArray, List.getElem_cons_zero, List.getElem_cons_succ, Act.put, List.setIfInBounds_toArray, List.set_cons_zero, List.set_cons_succ]
                          refine wpAny_take (i := 15) (v := ?_) rfl (by kernel_rfl) (by kernel_rfl) (by kernel_rfl) (fun _ _ _ h => h) (Or.inl ⟨by rfl, ?_⟩) ?_
                          rotate_left
                          · intro w; go_simp
                            try with_reducible rfl
                          simp only [List.getElem_toArray, List.getElem_cons_zero, List.getElem_cons_succ, Act.put, List.setIfInBounds_toArray, List.set_cons_zero, List.set_cons_succ]
                          refine wpAny_done (by kernel_rfl) ?_ _
                          have HZ := Lib.hid (And.intro A21 F21)
                          clear A21 F21
                          go_wp2_with fail
                          go_roundw
                          case rel =>
                            refine ⟨k + 1, _, by omega, rfl, by go_num, ?_, ?_, HO.out.2.2.2.2.trans (HZ.out.2.mono HO.out.2.2.2.2.size)⟩
                            · have hz := HZ.out.1.mono HO.out.2.2.2.2.size
                              unfold B32
                              rw [HL9.out.1, HL9.out.2]
                              exact hz
                            · intro e; have := HL9.out.2; rw [e] at this; simp at this; try omega
                          case measure => simp [intOf]; omega
                        · go_simp
                          refine hK _ _ ?_
                          clear hK K
                          try simp only [List.getElem_toArray, List.getElem_cons_zero, List.getElem_cons_succ, Act.put, List.setIfInBounds_toArray, List.set_cons_zero, List.set_cons_succ]
                          have F22 : Below wr.heap.size wr (W17.alloc (.cells #[.int .u32 x] 30)) := F17.alloc F17.size _
                          have S22 : Boxed (W17.alloc (.cells #[.int .u32 x] 30)) W17.heap.size 30 (.int .u32 x) := Boxed.new _ _ _
                          have A22 := A17.past (.cells #[.int .u32 x] 30)
                          have ne22 : ga17 ≠ W17.heap.size := by have := la17; omega
                          generalize W17.alloc (.cells #[.int .u32 x] 30) = W22 at F22 S22 A22 ⊢
                          generalize W17.heap.size = gb22 at *
                          refine wpAny_ready (rs := [4]) (by kernel_rfl) (by simp) ?_
                          refine AllReady.cons rfl (fun K hK => ?_) AllReady.nil
                          obtain ⟨v23, W23, R23, A23, g23, B23, ow23⟩ := chain_run (c := cp) A22 (src_of HSV.out F22 HU1.out a hat).1 F22.size (by omega)
                          have F23 := F22.trans B23
                          have lv23 := own_lt A23
                          have S23 := Boxed.kept S22 g23 (by simpa [Value.ownBlock] using ne22.symm)
                          have ne23 := own_ne ow23 rfl ne22 S22.lt
                          rw [if_pos (by rfl)]
                          refine operAppend (.tmp 51) (.tmp 54) _ _ rfl _ _ rfl rfl _ _ R23 ?_
                          refine hK _ _ ?_
                          clear hK K
                          try simp only [List.getElem_toArray, List.getElem_cons_zero, List.getElem_cons_succ, Act.put, List.setIfInBounds_toArray, List.set_cons_zero, List.set_cons_succ]
                          refine wpAny_ready (rs := [10]) (by kernel_rfl) (by simp) ?_
                          refine AllReady.cons rfl (fun K hK => ?_) AllReady.nil
                          obtain ⟨v24, W24, R24, A24, g24, B24, ow24⟩ := chain_run (c := 1) A23 (src_one S23) F23.size (by omega)
                          have F24 := F23.trans B24
                          rw [if_pos (by rfl)]
                          refine operAppend (.tmp 55) (.tmp 60) _ _ rfl _ _ rfl rfl _ _ R24 ?_
                          refine hK _ _ ?_
                          clear hK K
                          try simp only [List.getElem_toArray, List.getElem_cons_zero, List.getElem_cons_succ, Act.put, List.setIfInBounds_toArray, List.set_cons_zero, List.set_cons_succ]
                          refine wpAny_ready (rs := [14]) (by kernel_rfl) (by simp) ?_
                          refine AllReady.cons rfl (fun K hK => ?_) AllReady.nil
                          obtain ⟨v25, W25, R25, A25, g25, B25, ow25⟩ := chain_run (c := (cp - a)) A24 (src_of HSV.out F24 HU1.out a hat).2 F24.size (by omega)
                          have F25 := F24.trans B25
                          rw [if_pos (by rfl)]
                          refine operAppend (.tmp 61) (.tmp 64) _ _ rfl _ _ rfl rfl _ _ R25 ?_
                          refine hK _ _ ?_
                          clear hK K
                          try simp only [List.getElem_toArray, List.getElem_cons_zero, List.getElem_cons_succ, Act.put, List.setIfInBounds_toArray, List.set_cons_zero, List.set_cons_succ]
                          refine wpAny_take (i := 15) (v := ?_) rfl (by kernel_rfl) (by kernel_rfl) (by kernel_rfl) (fun _ _ _ h => h) (Or.inl ⟨by rfl, ?_⟩) ?_
                          rotate_left
                          · intro w; go_simp
                            try with_reducible rfl
                          simp only [List.getElem_toArray, List.getElem_cons_zero, List.getElem_cons_succ, Act.put, List.setIfInBounds_toArray, List.set_cons_zero, List.set_cons_succ]
                          refine wpAny_done (by kernel_rfl) ?_ _
                          have HZ := Lib.hid (And.intro A25 F25)
                          clear A25 F25
                          go_wp2_with fail
                          go_roundw
                          case rel =>
                            refine ⟨k + 1, _, by omega, rfl, by go_num, ?_, ?_, HO.out.2.2.2.2.trans (HZ.out.2.mono HO.out.2.2.2.2.size)⟩
                            · have hz := HZ.out.1.mono HO.out.2.2.2.2.size
                              unfold B32
                              rw [HL9.out.1, HL9.out.2]
                              exact hz
                            · intro e; have := HL9.out.2; rw [e] at this; simp at this; try omega
                          case measure => simp [intOf]; omega
                      · go_simp
                        refine hK _ _ ?_
                        clear hK K
                        try simp only [List.getElem_toArray, List.getElem_cons_zero, List.getElem_cons_succ, Act.put, List.setIfInBounds_toArray, List.set_cons_zero, List.set_cons_succ]
                        have F26 : Below wr.heap.size wr (W0.alloc (.cells #[.int .u32 x] 30)) := F0.alloc F0.size _
                        have S26 : Boxed (W0.alloc (.cells #[.int .u32 x] 30)) W0.heap.size 30 (.int .u32 x) := Boxed.new _ _ _
                        generalize W0.alloc (.cells #[.int .u32 x] 30) = W26 at F26 S26 ⊢
                        generalize W0.heap.size = gb26 at *
                        refine wpAny_ready (rs := [0]) (by kernel_rfl) (by simp) ?_
                        refine AllReady.cons rfl (fun K hK => ?_) AllReady.nil
                        go_simp
                        refine hK _ _ ?_
                        clear hK K
                        try simp only [List.getElem_toArray, List.getElem_cons_zero, List.getElem_cons_succ, Act.put, List.setIfInBounds_toArray, List.set_cons_zero, List.set_cons_succ]
                        have F27 : Below wr.heap.size wr (W26.alloc (.cells #[] 30)) := F26.alloc F26.size _
                        have A27 : Buf (W26.alloc (.cells #[] 30)) wr.heap.size 1 (.slice (some ⟨W26.heap.size, 0, none⟩) 0 0) 0 [] := empty_buf F26.size _
                        have S27 := (Boxed.alloc S26 (.cells #[] 30))
                        have ne27 : W26.heap.size ≠ gb26 := by have := S26.lt; omega
                        generalize W26.alloc (.cells #[] 30) = W27 at F27 A27 S27 ⊢
                        have la27 := own_lt A27 W26.heap.size rfl
                        generalize W26.heap.size = ga27 at *
                        refine wpAny_ready (rs := [4]) (by kernel_rfl) (by simp) ?_
                        refine AllReady.cons rfl (fun K hK => ?_) AllReady.nil
                        obtain ⟨v28, W28, R28, A28, g28, B28, ow28⟩ := chain_run (c := cp) A27 (src_of HSV.out F27 HU1.out a hat).1 F27.size (by omega)
                        have F28 := F27.trans B28
                        have lv28 := own_lt A28
                        have S28 := Boxed.kept S27 g28 (by simpa [Value.ownBlock] using ne27.symm)
                        have ne28 := own_ne ow28 rfl ne27 S27.lt
                        rw [if_pos (by rfl)]
                        refine operAppend (.tmp 51) (.tmp 54) _ _ rfl _ _ rfl rfl _ _ R28 ?_
                        refine hK _ _ ?_
                        clear hK K
                        try simp only [List.getElem_toArray, List.getElem_cons_zero, List.getElem_cons_succ, Act.put, List.setIfInBounds_toArray, List.set_cons_zero, List.set_cons_succ]
                        refine wpAny_ready (rs := [10]) (by kernel_rfl) (by simp) ?_
                        refine AllReady.cons rfl (fun K hK => ?_) AllReady.nil
                        obtain ⟨v29, W29, R29, A29, g29, B29, ow29⟩ := chain_run (c := 1) A28 (src_one S28) F28.size (by omega)
                        have F29 := F28.trans B29
                        rw [if_pos (by rfl)]
                        refine operAppend (.tmp 55) (.tmp 60) _ _ rfl _ _ rfl rfl _ _ R29 ?_
                        refine hK _ _ ?_
                        clear hK K
                        try simp only [List.getElem_toArray, List.getElem_cons_zero, List.getElem_cons_succ, Act.put, List.setIfInBounds_toArray, List.set_cons_zero, List.set_cons_succ]
                        refine wpAny_ready (rs := [14]) (by kernel_rfl) (by simp) ?_
                        refine AllReady.cons rfl (fun K hK => ?_) AllReady.nil
                        obtain ⟨v30, W30, R30, A30, g30, B30, ow30⟩ := chain_run (c := (cp - a)) A29 (src_of HSV.out F29 HU1.out a hat).2 F29.size (by omega)
                        have F30 := F29.trans B30
                        rw [if_pos (by rfl)]
                        refine operAppend (.tmp 61) (.tmp 64) _ _ rfl _ _ rfl rfl _ _ R30 ?_
                        refine hK _ _ ?_
                        clear hK K
                        try simp only [List.getElem_toArray, List.getElem_cons_zero, List.getElem_cons_succ, Act.put, List.setIfInBounds_toArray, List.set_cons_zero, List.set_cons_succ]
                        refine wpAny_take (i := 15) (v := ?_) rfl (by kernel_rfl) (by kernel_rfl) (by kernel_rfl) (fun _ _ _ h => h) (Or.inl ⟨by rfl, ?_⟩) ?_
                        rotate_left
                        · intro w; go_simp
                          try with_reducible rfl
                        simp only [List.getElem_toArray, List.getElem_cons_zero, List.getElem_cons_succ, Act.put, List.setIfInBounds_toArray, List.set_cons_zero, List.set_cons_succ]
                        refine wpAny_done (by kernel_rfl) ?_ _
                        have HZ := Lib.hid (And.intro A30 F30)
                        clear A30 F30
                        go_wp2_with fail
                        go_roundw
                        case rel =>
                          refine ⟨k + 1, _, by omega, rfl, by go_num, ?_, ?_, HO.out.2.2.2.2.trans (HZ.out.2.mono HO.out.2.2.2.2.size)⟩
                          · have hz := HZ.out.1.mono HO.out.2.2.2.2.size
                            unfold B32
                            rw [HL9.out.1, HL9.out.2]
                            exact hz
                          · intro e; have := HL9.out.2; rw [e] at this; simp at this; try omega
                        case measure => simp [intOf]; omega
    · obtain rfl : k = m := by omega
      rw [List.take_of_length_le (by have := HM.out; omega)] at hbuf
      have HB := Lib.hid (And.intro hbuf hbel)
      clear hbuf hbel
      go_wp2_with fail
      go_ret
      exact ⟨sv, rfl, HB.out.1, HB.out.2⟩
end Go.Proofs.YtpcffnhbodjpbaaGreatDoor
