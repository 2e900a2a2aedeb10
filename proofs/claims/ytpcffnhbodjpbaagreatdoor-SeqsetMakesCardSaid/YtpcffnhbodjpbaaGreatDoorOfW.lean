/- seqset.Of: the ranges of a list of numbers. -/
import Derived.Test.YtpcffnhbodjpbaaGreatDoorResW
import Derived.Test.YtpcffnhbodjpbaaGreatDoorUniq
set_option linter.unusedVariables false
set_option linter.unusedSimpArgs false
namespace Go.Proofs.YtpcffnhbodjpbaaGreatDoor
open Go Go.RowKit Go.Shelf Go.Lib Go.Sort

def encP (p : Int × Int) : List Value := [.int .u32 p.1, .int .u32 p.2]
theorem flatP_len (l : List (Int × Int)) : (l.flatMap encP).length = l.length * 2 := by
  induction l with
  | nil => rfl
  | cons x l ih => rw [List.flatMap_cons, List.length_append, ih, List.length_cons, show (encP x).length = 2 from rfl]; omega
/-- One step of the loop. -/
def stepZ (out : List (Int × Int)) (x : Int) : List (Int × Int) := if x = 0 then out else stepG out x
def ofZ (m : List Int) : List (Int × Int) := m.foldl stepZ []
theorem ofZ_take (m : List Int) (k : Nat) (hk : k < m.length) : ofZ (m.take (k + 1)) = stepZ (ofZ (m.take k)) m[k] := by
  unfold ofZ
  rw [List.take_succ_eq_append_getElem hk, List.foldl_append]
  rfl
theorem foldZ : ∀ (m : List Int) (out : List (Int × Int)), m.foldl stepZ out = (m.filter fun x => !decide (x = 0)).foldl stepG out
  | [], _ => rfl
  | x :: m, out => by
    rw [List.foldl_cons, foldZ m]
    unfold stepZ
    by_cases h : x = 0
    · rw [if_pos h, List.filter_cons_of_neg (by simp [h])]
    · rw [if_neg h, List.filter_cons_of_pos (by simp [h]), List.foldl_cons]
theorem ofZ_cmp (l : List Int) : ofZ (cmpU l) = grp (srtU l) := by
  unfold ofZ grp
  rw [foldZ]
  congr 1
  obtain ⟨h1, h2⟩ := cmpU_spec l
  refine asc_ext (List.Pairwise.filter _ h1) (srtU_asc l) fun x => ?_
  rw [List.mem_filter, h2, srtU_mem]
  simp
theorem stepG_in {S : Int → Prop} {out : List (Int × Int)} {x : Int} (h : ∀ p ∈ out, S p.1 ∧ S p.2) (hx : S x) : ∀ p ∈ stepG out x, S p.1 ∧ S p.2 := by
  unfold stepG
  cases hl : out.getLast? with
  | none => intro p hp; simp at hp; subst hp; exact ⟨hx, hx⟩
  | some q =>
    have hq := h q (List.mem_of_getLast? hl)
    simp only
    split
    · intro p hp
      rcases List.mem_append.1 hp with hp | hp
      · exact h p (List.dropLast_subset _ hp)
      · simp at hp; subst hp; exact ⟨hq.1, hx⟩
    · intro p hp
      rcases List.mem_append.1 hp with hp | hp
      · exact h p hp
      · simp at hp; subst hp; exact ⟨hx, hx⟩
theorem foldG_in {S : Int → Prop} : ∀ (m : List Int) (out : List (Int × Int)), (∀ p ∈ out, S p.1 ∧ S p.2) → (∀ x ∈ m, S x) → ∀ p ∈ m.foldl stepG out, S p.1 ∧ S p.2
  | [], _, h, _ => h
  | x :: m, out, h, hm => by
    rw [List.foldl_cons]
    exact foldG_in m _ (stepG_in h (hm x (by simp))) (fun y hy => hm y (List.mem_cons_of_mem _ hy))
theorem ofZ_in {S : Int → Prop} {m : List Int} (h : ∀ x ∈ m, S x) : ∀ p ∈ ofZ m, S p.1 ∧ S p.2 := by
  unfold ofZ
  rw [foldZ]
  exact foldG_in _ _ (by simp) (fun x hx => h x (List.mem_filter.1 hx).1)
theorem stepG_len (out : List (Int × Int)) (x : Int) : (stepG out x).length ≤ out.length + 1 := by
  unfold stepG
  cases hl : out.getLast? with
  | none => simp
  | some q =>
    simp only
    split <;> simp <;> omega
theorem foldG_len : ∀ (m : List Int) (out : List (Int × Int)), (m.foldl stepG out).length ≤ out.length + m.length
  | [], _ => by simp
  | x :: m, out => by
    have h1 := foldG_len m (stepG out x)
    have h2 := stepG_len out x
    rw [List.foldl_cons, List.length_cons]
    omega
theorem ofZ_len (m : List Int) : (ofZ m).length ≤ m.length := by
  unfold ofZ
  rw [foldZ]
  have h1 := foldG_len (m.filter fun x => !decide (x = 0)) []
  have h2 := List.length_filter_le (fun x : Int => !decide (x = 0)) m
  simp at h1
  omega
theorem stepZ_zero (out : List (Int × Int)) : stepZ out 0 = out := rfl
theorem stepZ_none {x : Int} (h : x ≠ 0) : stepZ [] x = [(x, x)] := by unfold stepZ; rw [if_neg h]; rfl
theorem stepZ_join {D : List (Int × Int)} {a b x : Int} (h : x ≠ 0) (hb : b + 1 = x) : stepZ (D ++ [(a, b)]) x = D ++ [(a, x)] := by
  unfold stepZ stepG
  rw [if_neg h, List.getLast?_append]
  simp [hb]
theorem stepZ_new {D : List (Int × Int)} {a b x : Int} (h : x ≠ 0) (hb : ¬ b + 1 = x) : stepZ (D ++ [(a, b)]) x = (D ++ [(a, b)]) ++ [(x, x)] := by
  unfold stepZ stepG
  rw [if_neg h, List.getLast?_append]
  simp [hb]

/-- A cell of an own row is written. -/
theorem Buf.set {W : World} {base size n g off cap : Nat} {xs : List Value} (h : Buf W base size (.slice (some ⟨g, off, none⟩) n cap) n xs) (j : Nat) (hj : j < n * size) (u : Value) :
    Buf (W.setCell ⟨g, off + j, none⟩ u) base size (.slice (some ⟨g, off, none⟩) n cap) n (xs.set j u) := by
  refine ⟨by rw [List.length_set]; exact h.1, ?_⟩
  rcases h.2 with ⟨e, _⟩ | ⟨g', off', cap', e, h1, h2, h3, h4, h5⟩
  · cases e
  · injection e with e1 _ e3
    injection e1 with e1
    injection e1 with e4 e5 _
    subst e4 e5 e3
    have hjc : j < cap * size := Nat.lt_of_lt_of_le hj (Nat.mul_le_mul_right _ h3)
    refine .inr ⟨g, off, cap, rfl, h1, by simpa [World.setCell] using h2, h3, fun i v hi => ?_, fun i hi => ?_⟩
    · rw [List.getElem?_set] at hi
      by_cases e : j = i
      · subst e
        rw [if_pos rfl, if_pos (by rw [h.1]; exact hj)] at hi
        injection hi with hi
        subst hi
        obtain ⟨o, ho⟩ := Option.isSome_iff_exists.1 (h5 j hjc).1
        exact World.cell?_setCell_same _ _ _ ho
      · rw [if_neg e] at hi
        rw [World.cell?_setCell_other _ _ _ _ (fun e' => e (by injection e' with _ e' _; omega))]
        exact h4 i v hi
    · rw [World.frozen?_setCell]
      refine ⟨?_, (h5 i hi).2⟩
      by_cases e : j = i
      · subst e
        obtain ⟨o, ho⟩ := Option.isSome_iff_exists.1 (h5 j hi).1
        rw [World.cell?_setCell_same _ _ _ ho]; rfl
      · rw [World.cell?_setCell_other _ _ _ _ (fun e' => e (by injection e' with _ e' _; omega))]
        exact (h5 i hi).1
theorem infoRangeP : (Tryz.prog.info? 32).map (fun i => (i.zero, i.size, i.bytes)) = some (some (.agg #[.int .u32 0, .int .u32 0]), 2, 8) := by kernel_rfl
/-- 'out = append(out, r)'. -/
theorem push_pair {base k : Nat} {v : Value} {P : List (Int × Int)} {W : World} (hk : P.length = k) (h : Buf W base 2 v k (P.flatMap encP)) (x y : Int) (hb : base ≤ W.heap.size) (hl : k ≤ 1048576) :
    ∃ g o c w', (Builtin.append_ #[22, 22] 22 #[v, .slice (some ⟨W.heap.size, 0, none⟩) 1 1]).run Tryz.prog (W.alloc (.cells #[.int .u32 x, .int .u32 y] 32)) = .ok (.slice (some ⟨g, o, none⟩) (k + 1) c) w' ∧
      Buf w' base 2 (.slice (some ⟨g, o, none⟩) (k + 1) c) (k + 1) ((P ++ [(x, y)]).flatMap encP) ∧ Below base W w' := by
  obtain ⟨i0, hi, hz0, hz1, hz2⟩ := info_parts infoRangeP
  have hw : ∀ j, v.ownBlock = some j → base ≤ j := fun j e => by
    rcases h.2 with ⟨rfl, _⟩ | ⟨g, off, cap, rfl, h1, _⟩
    · cases e
    · have e' : g = j := by simpa [Value.ownBlock] using e
      omega
  obtain ⟨v', w', hrun, hb', hgr, -⟩ := run_append_buf (P := Tryz.prog) (W.alloc (.cells #[.int .u32 x, .int .u32 y] 32)) 22 22 32 i0 _ 2 8 Tryz.underlying22 hi hz0 hz1 hz2 rfl (by decide) base v k _ (h.past _) (some ⟨W.heap.size, 0, none⟩) 1 1 [.int .u32 x, .int .u32 y]
    ⟨rfl, fun u hu => by simp at hu; rcases hu with rfl | rfl <;> rfl, fun _ => ⟨_, rfl, fun j u hj => by
      rw [Go.WideShapes.add_plain]
      simp only [World.cell?, heap_alloc_new, Nat.zero_add]
      simpa using hj⟩⟩ (by unfold maxLen; omega) (by omega) (by rw [World.size_alloc]; omega)
  have hbel : Below base W w' := ((Below.refl _ W).alloc hb _).grown hgr (by rw [World.size_alloc]; omega) hw
  rcases hb'.2 with ⟨_, h0⟩ | ⟨g, o, c, rfl, -⟩
  · omega
  · refine ⟨g, o, c, w', hrun, ?_, hbel⟩
    rw [List.flatMap_append]
    exact hb'
theorem set_last (D : List (Int × Int)) (a b x : Int) : ((D ++ [(a, b)]).flatMap encP).set (D.length * 2 + 1) (.int .u32 x) = (D ++ [(a, x)]).flatMap encP := by
  rw [List.flatMap_append, List.flatMap_append, List.set_append_right _ _ (by rw [flatP_len]; omega), flatP_len, show D.length * 2 + 1 - D.length * 2 = 1 by omega]
  rfl
theorem cell_last {W : World} {base g off cap n : Nat} {D : List (Int × Int)} {a b : Int} (h : Buf W base 2 (.slice (some ⟨g, off, none⟩) n cap) n ((D ++ [(a, b)]).flatMap encP)) (hn : n = D.length + 1) :
    W.cell? ⟨g, off + D.length * 2 + 1, none⟩ = some (.int .u32 b) ∧ W.frozen? ⟨g, off + D.length * 2 + 1, none⟩ = false ∧ base ≤ g ∧ g < W.heap.size ∧ n ≤ cap := by
  rcases h.2 with ⟨e, _⟩ | ⟨g', off', cap', e, h1, h2, h3, h4, h5⟩
  · cases e
  · injection e with e1 _ e3
    injection e1 with e1
    injection e1 with e4 e5 _
    subst e4 e5 e3
    refine ⟨?_, ?_, h1, h2, h3⟩
    · rw [Nat.add_assoc]
      refine h4 _ _ ?_
      rw [List.flatMap_append, List.getElem?_append_right (by rw [flatP_len]; omega), flatP_len, show D.length * 2 + 1 - D.length * 2 = 1 by omega]
      rfl
    · rw [Nat.add_assoc]
      exact (h5 _ (by omega)).2

set_option maxRecDepth 100000 in
set_option maxHeartbeats 3200000 in
theorem of_any (l : List Int) (v : Value) (w : World) (hU : U32 w w.heap.size v l) (hl : l.length ≤ 1048576) (hr : ∀ x ∈ l, 0 ≤ x ∧ x < 4294967296) :
    Calls Tryz.prog 19 #[v] w fun e w' => ∃ v', e = .returned v' ∧ Buf w' w.heap.size 2 v' (grp (srtU l)).length ((grp (srtU l)).flatMap encP) ∧ Below w.heap.size w w' := by
  rw [← ofZ_cmp]
  obtain ⟨A, cap, rfl, -, -⟩ := id hU
  have HV := Lib.hid (sorted_vals l A cap w.heap.size (w.alloc (.cells #[.slice A l.length cap] 37)) (by simp) (by rw [World.size_alloc]; omega) ((hU.below ((Below.refl _ w).alloc (Nat.le_refl _) _) (Nat.le_refl _)).mono (by rw [World.size_alloc]; omega)) hl)
  have hms : (l.mergeSort fun x y => decide (x ≤ y)).length = l.length := List.length_mergeSort _
  have hcr : ∀ x ∈ cmpU l, 0 ≤ x ∧ x < 4294967296 := fun x hx => hr x (((cmpU_spec l).2 x).1 hx)
  have hcl : (cmpU l).length ≤ l.length := by
    have := compact_len (l.mergeSort fun x y => decide (x ≤ y))
    rw [hms] at this
    exact this
  obtain ⟨n, hn⟩ : ∃ n, l.length = n := ⟨_, rfl⟩
  obtain ⟨ms, hmm⟩ : ∃ ms, cmpU l = ms := ⟨_, rfl⟩
  rw [hmm] at hcr hcl ⊢
  rw [hn] at HV ⊢
  have HL := Lib.hid (And.intro hn (And.intro hl (And.intro hms (And.intro hcr hcl))))
  have HM := Lib.hid hmm
  clear hU hl hms hn hr hcr hcl hmm
  go_enter Tryz.func19, Tryz.ntmps19
  go_wp2_with fail
  refine (values_any A n cap w).mono ?_
  rintro e w1 ⟨rfl, rfl⟩
  go_wp2_with fail
  refine HV.out.mono ?_
  rintro e w2 ⟨v2, rfl, h1, h2⟩
  have HC := Lib.hid (compact_any h1 (by rw [HL.out.2.2.1]; exact HL.out.2.1))
  have H2 := Lib.hid (And.intro h1 h2)
  clear h1 h2
  go_wp2_with fail
  refine HC.out.mono ?_
  rintro e w3 ⟨v3, rfl, h3, h4⟩
  have hb3 : Below w.heap.size w w3 := by
    have q := ((Below.refl _ w).alloc (Nat.le_refl _) (.cells #[.slice A n cap] 37))
    have h2 := H2.out.2
    rw [World.size_alloc] at h2
    refine (q.trans (h2.mono (by omega))).grown h4 (by have := h2.size; rw [World.size_alloc] at this; omega) (fun k e => ?_)
    rcases H2.out.1.shape with ⟨rfl, _⟩ | ⟨g, off, cp, rfl, k1, _⟩
    · cases e
    · rw [World.size_alloc] at k1
      have e' : g = k := by simpa [Value.ownBlock] using e
      omega
  have h3' : B32 w3 w.heap.size v3 (cmpU l) := Buf.mono h3 (by rw [World.size_alloc]; omega)
  rw [HM.out] at h3'
  have hrd := Rd1.of_buf h3'
  have hbd := HL.out.2.2.2.1
  have hln := HL.out.2.2.2.2
  obtain ⟨A3, c3, rfl, -, hcl⟩ := hrd
  rw [List.length_map] at hcl
  obtain ⟨m, hm⟩ : ∃ m, ms.length = m := ⟨_, rfl⟩
  have hm1 : m ≤ 1048576 := by have := HL.out.1; have := HL.out.2.1; omega
  have HB := Lib.hid hb3
  rw [hm] at hcl
  rw [List.length_map, hm]
  have HCL := Lib.hid hcl
  have HI := Lib.hid (And.intro hbd hm)
  clear h3 h4 hb3 h3' hbd hln hcl hm
  have hmI : (m : Int) ≤ 1048576 := by omega
  go_wp2_with fail
  go_loopw [3, 11] (fun s3 i wr => ∃ (k : Nat) (sv : Value), k ≤ m ∧ sv = s3 ∧ i = .int .i64 k ∧ Buf wr w3.heap.size 2 sv (ofZ (ms.take k)).length ((ofZ (ms.take k)).flatMap encP) ∧ (ofZ (ms.take k) = [] → sv = .slice none 0 0) ∧ Below w3.heap.size w3 wr) (fun _ i _ => m - (intOf i).toNat)
  case atStart => exact ⟨0, _, Nat.zero_le _, rfl, rfl, Buf.nil _ _ _, fun _ => rfl, Below.refl _ _⟩
  case round =>
    obtain ⟨k, sv, hk, rfl, rfl, hbuf, hnl, hbel⟩ := hrel
    have hkI : (k : Int) ≤ m := by omega
    by_cases hlt : k < m
    · have hltI : (k : Int) < m := by omega
      have hkl : k < ms.length := by have := HI.out.2; omega
      obtain ⟨x, hxe⟩ : ∃ x, ms[k] = x := ⟨_, rfl⟩
      have hx : ms[k]? = some x := by rw [List.getElem?_eq_getElem hkl, hxe]
      obtain ⟨b, o, rfl, hb, hcl⟩ := HCL.out (by omega)
      have e0 := hcl k (.int .u32 x) (by rw [List.getElem?_map, hx]; rfl)
      have c0 := (hbel.cell (p := ⟨b, o + k, none⟩) hb).trans e0
      obtain ⟨hx0, hx1⟩ := HI.out.1 x (by rw [← hxe]; exact List.getElem_mem _)
      have hstep := ofZ_take ms k hkl
      rw [hxe] at hstep
      have hob := ofZ_in (S := fun y => 0 ≤ y ∧ y < 4294967296) (m := ms.take k) (fun y hy => HI.out.1 y (List.mem_of_mem_take hy))
      have hol := ofZ_len (ms.take k)
      rw [List.length_take] at hol
      obtain ⟨out, hout⟩ : ∃ out, ofZ (ms.take k) = out := ⟨_, rfl⟩
      rw [hout] at hbuf hnl hstep hob hol
      have hol1 : out.length ≤ 1048576 := by omega
      have HS := Lib.hid (And.intro hstep (And.intro hbuf (And.intro hnl hbel)))
      have hbs := hbel.size
      clear hxe hx hcl e0 hstep hout hbel hol
      by_cases hz : x = 0
      · subst hz
        have HNL := Lib.hid hnl
        clear hbuf hnl hob
        go_wp2_with fail
        go_roundw
        case rel =>
          refine ⟨k + 1, sv, by omega, rfl, by go_num, ?_, ?_, HS.out.2.2.2⟩
          · rw [HS.out.1, stepZ_zero]; exact HS.out.2.1
          · rw [HS.out.1, stepZ_zero]; exact HNL.out
        case measure => simp [intOf]; omega
      · have hzb : (x == 0) = false := by simpa using hz
        rcases List.eq_nil_or_concat out with rfl | ⟨D, ⟨a, bb⟩, rfl⟩
        · have hv := hnl rfl
          subst hv
          obtain ⟨g, o2, c2, w4, hrun, hb4, hbel4⟩ := push_pair (P := []) rfl hbuf x x hbs (by decide)
          have HR := Lib.hid hrun
          have HE := Lib.hid (And.intro hb4 hbel4)
          clear hrun hb4 hbel4 hbuf hnl hob
          go_wp2_with (at_builtin; refine wpList_append_run _ rfl (.tmp 15) (.tmp 19) _ _ rfl _ _ rfl rfl _ _ HR.out ?_)
          go_roundw
          case rel =>
            refine ⟨k + 1, _, by omega, rfl, by go_num, ?_, ?_, HS.out.2.2.2.trans HE.out.2⟩
            · rw [HS.out.1, stepZ_none hz]; exact HE.out.1
            · rw [HS.out.1, stepZ_none hz]; simp
          case measure => simp [intOf]; omega
        · rw [List.concat_eq_append] at hbuf hob hol1 HS
          have hlen : (D ++ [(a, bb)]).length = D.length + 1 := by simp
          rw [hlen] at hbuf hol1
          obtain ⟨g, off, cp, hsv⟩ := buf_pos (n := D.length) hbuf
          subst hsv
          obtain ⟨c1, f1, hbg, hgl, hcp⟩ := cell_last hbuf rfl
          obtain ⟨-, hb0, hb1⟩ := hob (a, bb) (by simp)
          simp only at hb0 hb1
          obtain ⟨d, hd⟩ : ∃ d, D.length = d := ⟨_, rfl⟩
          rw [hd] at hbuf hol1 c1 f1 hcp ⊢
          have hd0 : (0 : Int) < (d : Int) + 1 := by omega
          have hdI : (d : Int) ≤ 1048576 := by omega
          have hneg : g ≠ b := by omega
          by_cases hj : bb + 1 = x
          · have hwr : IntKind.u32.wrap (bb + 1) = x := by simp [IntKind.wrap, IntKind.bits, IntKind.signed]; omega
            have HX := Lib.hid (And.intro hj (And.intro hbuf (And.intro hd (And.intro hbg hz))))
            clear hj hbuf hnl hob hd hlen hbg
            go_wp2_with fail
            go_roundw
            case rel =>
              refine ⟨k + 1, _, by omega, rfl, by go_num, ?_, ?_, ?_⟩
              · rw [HS.out.1, stepZ_join HX.out.2.2.2.2 HX.out.1]
                have := HX.out.2.1.set (d * 2 + 1) (by omega) (.int .u32 x)
                rw [← HX.out.2.2.1, set_last, HX.out.2.2.1] at this
                rw [show (D ++ [(a, x)]).length = d + 1 by simp [HX.out.2.2.1]]
                rw [← Nat.add_assoc] at this
                exact this
              · rw [HS.out.1, stepZ_join HX.out.2.2.2.2 HX.out.1]; simp
              · exact HS.out.2.2.2.setCell HX.out.2.2.2.1 _
            case measure => simp [intOf]; omega
          · obtain ⟨y, hy, hyx⟩ : ∃ y, IntKind.u32.wrap (bb + 1) = y ∧ ¬ y = x := ⟨_, rfl, by simp [IntKind.wrap, IntKind.bits, IntKind.signed]; omega⟩
            have hwrb : (y == x) = false := by simpa using hyx
            obtain ⟨g2, o2, c2, w4, hrun, hb4, hbel4⟩ := push_pair (P := D ++ [(a, bb)]) (by rw [hlen, hd]) hbuf x x hbs (by omega)
            have HR := Lib.hid hrun
            have HE := Lib.hid (And.intro hb4 (And.intro hbel4 (And.intro hj (And.intro hd hz))))
            clear hrun hb4 hbel4 hbuf hnl hob hj hd hlen hbg
            go_wp2_with (at_builtin; refine wpList_append_run _ rfl (.tmp 15) (.tmp 19) _ _ rfl _ _ rfl rfl _ _ HR.out ?_)
            go_roundw
            case rel =>
              refine ⟨k + 1, _, by omega, rfl, by go_num, ?_, ?_, HS.out.2.2.2.trans HE.out.2.1⟩
              · rw [HS.out.1, stepZ_new HE.out.2.2.2.2 HE.out.2.2.1]
                rw [show (D ++ [(a, bb)] ++ [(x, x)]).length = d + 1 + 1 by simp [HE.out.2.2.2.1]]
                exact HE.out.1
              · rw [HS.out.1, stepZ_new HE.out.2.2.2.2 HE.out.2.2.1]; simp
            case measure => simp [intOf]; omega
    · obtain rfl : k = m := by omega
      rw [List.take_of_length_le (by have := HI.out.2; omega)] at hbuf
      have HF := Lib.hid (And.intro hbuf hbel)
      clear hbuf hbel hnl
      go_wp2_with fail
      go_ret
      have hs3 := HB.out.size
      exact ⟨sv, rfl, HF.out.1.mono hs3, HB.out.trans (HF.out.2.mono hs3)⟩
end Go.Proofs.YtpcffnhbodjpbaaGreatDoor
