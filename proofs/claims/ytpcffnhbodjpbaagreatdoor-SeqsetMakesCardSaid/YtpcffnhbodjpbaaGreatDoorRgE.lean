/- The walk of seqset.Numbers. -/
import Derived.Test.YtpcffnhbodjpbaaGreatDoorRgD
set_option linter.unusedVariables false
set_option linter.unusedSimpArgs false
namespace Go.Proofs.YtpcffnhbodjpbaaGreatDoor
open Go Go.RowKit Go.Shelf Go.Lib Go.Sort
attribute [local go_sem] Oper.semAt_some

set_option maxRecDepth 100000 in
set_option maxHeartbeats 3200000 in
theorem numbers_any (top : Nat) (ht : top ≤ 1048576) (l : List RB) (v : Value) (w : World) (hR : RgL w w.heap.size v (l.map RB.rng)) (hl : l.length ≤ 1048576) :
    Calls Tryz.prog 17 #[.int .u32 top, v] w fun e w' => ∃ v', e = .returned v' ∧ Buf w' w.heap.size 1 v' (numsOf top (l.map RB.rng)).length ((numsOf top (l.map RB.rng)).map n32) ∧ Below w.heap.size w w' := by
  have hv := callsIn_wide (n := 6 - 1).2 (valid_any top (l.map RB.rng) v w hR (by rw [List.length_map]; exact hl))
  obtain ⟨A, cap, rfl, hcap, hcells⟩ := id hR
  rw [List.length_map] at hv hR ⊢
  obtain ⟨m, hm⟩ : ∃ m, l.length = m := ⟨_, rfl⟩
  rw [hm] at hv hR hl ⊢
  have HV := Lib.hid hv
  have HR := Lib.hid (And.intro hR (And.intro hm hl))
  clear hv hR hm hl hcells hcap
  refine (callsIn_wide (n := 6)).1 ?_
  refine callsIn_of_wp_marks Tryz.func17 rfl trivial ?_ rfl
  simp only [Tryz.ntmps17, List.size_toArray, List.length_cons, List.length_nil, Nat.reduceAdd, Nat.reduceSub, Array.replicate_succ, Array.replicate_zero, List.push_toArray, List.append_toArray, List.nil_append, List.cons_append]
  gi_wp2
  refine ⟨trivial, ?_⟩
  cases hvb : validB top (l.map RB.rng) with
  | false =>
    have HN : Hid (numsOf top (l.map RB.rng) = []) := Lib.hid (by unfold numsOf; rw [hvb]; rfl)
    rw [hvb] at HV
    refine HV.out.mono ?_
    rintro e w1 ⟨rfl, hb1⟩
    have HB := Lib.hid hb1
    clear hb1 hvb
    gi_wp2
    rw [HN.out]
    exact ⟨_, results_tmp rfl _ _ _, .slice none 0 0, rfl, Buf.nil _ _ _, HB.out⟩
  | true =>
    rw [hvb] at HV
    refine HV.out.mono ?_
    rintro e w1 ⟨rfl, hb1⟩
    have HB := Lib.hid (And.intro hb1 hvb)
    clear hb1 hvb
    gi_wp2
    refine ⟨trivial, ?_⟩
    refine (callsIn_wide.2 (merged_any _ _ _ _ _)).mono ?_
    rintro e w3 ⟨rfl, rfl⟩
    gi_wp2
    obtain ⟨s1, hs1⟩ : ∃ s1, w1.heap.size = s1 := ⟨_, rfl⟩
    have hsa : ∀ o, (w1.alloc o).heap.size = s1 + 1 := fun o => by rw [World.size_alloc, hs1]
    simp only [hs1, hsa]
    obtain ⟨W0, hW0⟩ : ∃ W0, ((w1.alloc (.cells #[.slice none 0 0] 37)).alloc (.cells #[.int .u32 (top : Nat)] 30)).alloc (.cells #[.slice A m cap] 22) = W0 := ⟨_, rfl⟩
    have hz0 : W0.heap.size = s1 + 3 := by rw [← hW0, World.size_alloc, World.size_alloc, World.size_alloc, hs1]
    have hbB := HB.out.1.size
    rw [hs1] at hbB
    have hb10 : Below s1 w1 W0 := by
      rw [← hW0, ← hs1]
      exact (((Below.refl _ w1).alloc (Nat.le_refl _) _).alloc (by rw [World.size_alloc]; omega) _).alloc (by rw [World.size_alloc, World.size_alloc]; omega) _
    obtain ⟨Z0, hZ0⟩ : ∃ Z0 : List (Nat × Obj), Z0 = [(s1 + 1, .cells #[.int .u32 (top : Nat)] 30), (s1 + 2, .cells #[.slice A m cap] 22)] := ⟨_, rfl⟩
    have hj0 : NJ w w.heap.size s1 Z0 [] W0 := by
      refine ⟨⟨.slice none 0 0, ?_, Buf.nil _ _ _, by simp [Value.ownBlock], by simp [Value.ownBlock], fun _ => rfl⟩, HB.out.1.trans (hb10.mono hbB), fun z hz => ?_, hbB⟩
      rotate_left
      · rw [hZ0] at hz
        simp only [List.mem_cons, List.not_mem_nil, or_false] at hz
        rcases hz with rfl | rfl
        · refine ⟨?_, by simp only; omega, rfl⟩
          have := (Boxed.new (w1.alloc (.cells #[.slice none 0 0] 37)) 30 (.int .u32 (top : Nat))).alloc (.cells #[.slice A m cap] 22)
          rw [hW0, World.size_alloc, hs1] at this
          exact this
        · refine ⟨?_, by simp only; omega, rfl⟩
          have := Boxed.new ((w1.alloc (.cells #[.slice none 0 0] 37)).alloc (.cells #[.int .u32 (top : Nat)] 30)) 22 (.slice A m cap)
          rw [hW0, World.size_alloc, World.size_alloc, hs1] at this
          exact this
      have := ((Boxed.new w1 37 (.slice none 0 0)).alloc (.cells #[.int .u32 (top : Nat)] 30)).alloc (.cells #[.slice A m cap] 22)
      rw [hW0, hs1] at this
      exact this
    rw [hW0]
    have HJ0 := Lib.hid (And.intro hj0 (And.intro hZ0 hz0))
    have HS := Lib.hid hs1
    clear hj0 hZ0 hW0 hb10 hsa hs1
    refine wpIn_rangeFunc_state rfl (by decide) (gf := 48) (lb := #[.pointer (some ⟨s1 + 2, 0, none⟩), .pointer (some ⟨s1 + 1, 0, none⟩)]) rfl trivial (enters_of Tryz.func48 (by kernel_rfl) rfl) (encs := fun x : Rng => #[.agg #[.int .u32 (x.lo : Nat), .int .u32 (x.hi : Nat)]]) (fun _ => rfl)
      (fun (i : List (Nat × Obj) × List Rng) W => NJ w w.heap.size s1 i.1 (numsL i.2) W) (fun i x i' => MGo top l i.2 x ∧ i' = (i.1, i.2 ++ [x])) (fun i => MOut top l i.2) (Z0, [])
      (fun i W lx o o' hl hh ho hj => hj.put o' (by omega) hh ho) (fun rr => (HJ0.out.1.grow ((Below.refl _ W0).alloc (Nat.le_refl _) _)).grow ((Below.refl _ _).alloc (Nat.le_refl _) _))
      (fun i x i' a1 W => (MGo top l i.2 x ∧ i' = (i.1, i.2 ++ [x])) ∧ ∃ fb, NJ w w.heap.size s1 ((fb, .cells #[.int .u32 (x.lo : Nat), .int .u32 (x.hi : Nat)] 32) :: i.1) (numsL i.2) W ∧ a1 =
        { tmps := #[.int .u32 (top : Nat), .slice A m cap, undef, undef, .slice none 0 0, .pointer (some ⟨s1, 0, none⟩), .pointer (some ⟨fb, 0, none⟩), undef, .int .u32 (top : Nat), .slice A m cap, .bool true, .bool false, .int .u32 (top : Nat), .slice A m cap,
            .func (.func 48) #[] #[.pointer (some ⟨s1 + 2, 0, none⟩), .pointer (some ⟨s1 + 1, 0, none⟩)], .agg #[.int .u32 (x.lo : Nat), .int .u32 (x.hi : Nat)], undef, undef, undef, undef, undef, undef, undef, undef, undef, undef, undef, undef, undef], defers := [] })
      (fun i x i' a1 W lx o o' hl hh ho ⟨ht, fb, hj, ha⟩ => ⟨ht, fb, hj.put o' (by omega) hh ho, ha⟩) ?assign ?body ?hit ?done
    case assign =>
      intro lx i x i' W K hj ht hsz hK
      have HK := Lib.hid hK
      have HT := Lib.hid (And.intro hj ht)
      clear hK hj ht
      gi_wp2
      exact HK.out _ _ (KeepsOthers.alloc W _) ⟨HT.out.2, W.heap.size, HT.out.1.add ((Below.refl _ W).alloc (Nat.le_refl _) _) (Nat.le_refl _) (heap_alloc_new W _) rfl, rfl⟩
    case body =>
      rintro lx i x i' a1 W ⟨⟨hgo, rfl⟩, fb, hj, rfl⟩ hsz
      obtain ⟨b1, b2, b3, b4⟩ := mgo_bound HB.out.2 (by omega) hgo
      obtain ⟨lo, hi⟩ := x
      simp only at b1 b2 b3 b4 hj ⊢
      have hblk : Blk W fb 32 #[.int .u32 (lo : Nat), .int .u32 (hi : Nat)] := hj.at_
      have d0 : W.cell? ⟨fb, 0, none⟩ = some (.int .u32 (lo : Nat)) := hblk.cell 0
      have hhI : (hi : Int) ≤ 1048576 := by omega
      have HJ := Lib.hid hj
      have HG := Lib.hid (And.intro b4 hblk)
      clear hj b4 hgo hblk
      gi_wp2
      gi_loopw [7] (fun s7 wr => ∃ q : Nat, s7 = .int .u32 q ∧ lo ≤ q ∧ q ≤ hi + 1 ∧ NJ w w.heap.size s1 ((fb, .cells #[.int .u32 (lo : Nat), .int .u32 (hi : Nat)] 32) :: i.1) (numsL i.2 ++ nums lo (q - 1)) wr ∧ KeepsOthers W wr) (fun s7 _ => hi + 1 - (intOf s7).toNat)
      case atStart =>
        refine ⟨lo, rfl, Nat.le_refl _, by omega, ?_, KeepsOthers.refl _⟩
        rw [nums_none (by omega), List.append_nil]
        exact HJ.out
      case round =>
        obtain ⟨q, rfl, hq1, hq2, hj, hko⟩ := hrel
        have hblk : Blk wr fb 32 #[.int .u32 (lo : Nat), .int .u32 (hi : Nat)] := hj.at_
        have d1 : wr.cell? ⟨fb, 1, none⟩ = some (.int .u32 (hi : Nat)) := hblk.cell 1
        clear hblk d0
        by_cases hqh : q ≤ hi
        · have hqhI : (q : Int) ≤ hi := by omega
          have hlen : (numsL i.2 ++ nums lo (q - 1)).length ≤ 1048576 := by
            rw [List.length_append, nums_len]
            have := HG.out.1
            omega
          obtain ⟨nq, hnq⟩ : ∃ nq, numsL i.2 ++ nums lo (q - 1) = nq := ⟨_, rfl⟩
          rw [hnq] at hj hlen
          obtain ⟨v, g, o, c, w', hv, hrun, hv2, hj2, hk2⟩ := hj.push q hlen
          have HNQ := Lib.hid hnq
          clear hnq
          have c0 := hv.cell
          have c1 := hv2.cell
          have f1 := hv2.frozen
          have hwr : IntKind.u32.wrap ((q : Int) + 1) = (q : Int) + 1 := by simp [IntKind.wrap, IntKind.bits, IntKind.signed]; omega
          have HRn := Lib.hid hrun
          have HE := Lib.hid (And.intro (hko.trans hk2) hj2)
          clear hrun hj hko hj2 hk2 hv hv2 hlen
          gi_wp2_with (gi_at_builtin; refine wpListIn_append_runR _ rfl (.tmp 24) (.tmp 26) _ _ rfl _ _ rfl rfl _ _ HRn.out ?_)
          go_roundw
          case rel =>
            refine ⟨q + 1, by simp, by omega, by omega, ?_, HE.out.1⟩
            have e : numsL i.2 ++ nums lo (q + 1 - 1) = nq ++ [q] := by
              rw [← HNQ.out, List.append_assoc, show q + 1 - 1 = (q - 1) + 1 by omega, nums_snoc (by omega), show q - 1 + 1 = q by omega]
            rw [e]
            exact HE.out.2
          case measure => simp [intOf]; omega
        · have hq : q = hi + 1 := by omega
          subst hq
          have hqhI : decide (((hi + 1 : Nat) : Int) ≤ hi) = false := decide_eq_false (by omega)
          have hqhp : ¬ (((hi + 1 : Nat) : Int) ≤ hi) := by omega
          have HE := Lib.hid (And.intro hko hj)
          clear hko hj
          gi_wp2
          refine ⟨HE.out.1, ?_⟩
          have := HE.out.2.weak
          rw [Nat.add_sub_cancel] at this
          unfold numsL
          rw [List.flatMap_append]
          simpa [numsL] using this
    case hit =>
      intro R W1 hRR hRs hY hJ hR1
      have hZ0 := HJ0.out.2.1
      have hbt : W1.heap[s1 + 1]? = some (.cells #[.int .u32 (top : Nat)] 30) := (hJ.prot (s1 + 1, .cells #[.int .u32 (top : Nat)] 30) (by rw [hZ0]; simp)).1
      have hbl : W1.heap[s1 + 2]? = some (.cells #[.slice A m cap] 22) := (hJ.prot (s1 + 2, .cells #[.slice A m cap] 22) (by rw [hZ0]; simp)).1
      have hbt' : Boxed W1 (s1 + 1) 30 (.int .u32 (top : Nat)) := hbt
      have hbl' : Boxed W1 (s1 + 2) 22 (.slice A m cap) := hbl
      have hl0 : 0 < l.length := by
        have := HB.out.2
        cases l with
        | nil => simp [validB] at this
        | cons a t => simp
      refine (merged1_in (6 - 1) (by decide) (W0.heap.size + 1) (s1 + 1) (s1 + 2) top (by omega) l (.slice A m cap) (by have := HR.out.2.1; have := HR.out.2.2; omega) hl0 (fun zs ys W => NJ w w.heap.size s1 (zs ++ Z0) (numsL ys) W ∧ W0.heap.size + 2 ≤ W.heap.size) R
        (fun W W' hr hb => hRR W W' hr (fun k hk => hb.block k (by have := hRs W hr; omega)))
        (fun zs ys W W' hj hb => ⟨hj.1.grow hb, Nat.le_trans hj.2 hb.size⟩) (fun zs ys W W' k o hj hb hk ho hc => ⟨hj.1.add hb hk ho hc, Nat.le_trans hj.2 hb.size⟩) (fun z zs ys W hj => ⟨hj.1.weak, hj.2⟩) (fun z zs ys W hj => hj.1.at_)
        (fun zs ys x W hj hr hg => (hY (zs ++ Z0, ys) x (zs ++ Z0, ys ++ [x]) W hj.1 hr ⟨hg, rfl⟩).mono fun e W' ⟨h1, h2, h3⟩ => ⟨h1, ⟨h2, by have := hRs W' h3; omega⟩, h3⟩) W1 hbt'.cell hbt'.lt hbl'.cell hbl'.lt
        ((HR.out.1.below hJ.low (Nat.le_refl _)).mono hJ.low.size) ⟨hJ, by have := hRs W1 hR1; omega⟩ hR1).mono ?_
      rintro e W' ⟨hv, zs, ys, h1, h2, h3⟩
      exact ⟨hv, (zs ++ Z0, ys), h1, h2.1, h3⟩
    case done =>
      rintro i W hS hj hK
      obtain ⟨v, hv, hbf, -, -, -⟩ := hj.box
      have c0 := hv.cell
      have HJ := Lib.hid (And.intro hS (And.intro hj (And.intro hK hv)))
      clear hS hj hK hv hbf hz0
      gi_wp2
      obtain ⟨hS, hj, hK, hv⟩ := HJ.out
      refine ⟨by simp, .inl ⟨_, _, rfl, run_takeDeferred hK, ?_⟩⟩
      have hj2 := hj.put (.deferred none) (by have := HJ0.out.2.2; omega) hK rfl
      obtain ⟨v2, hv2, hbf2, -, -, -⟩ := hj2.box
      have hv3 : Boxed (W.putObj W0.heap.size (.deferred none)) s1 37 v := (World.putObj_heap_other (by have := HJ0.out.2.2; omega)).trans hv
      have e : v2 = v := by
        have := hv2.cell.symm.trans hv3.cell
        simpa using this
      subst e
      rw [mout_nums HB.out.2 (by omega) hS] at hbf2
      exact ⟨_, results_tmp rfl _ _ _, v2, rfl, hbf2, hj2.low⟩
end Go.Proofs.YtpcffnhbodjpbaaGreatDoor
