/- The reference of sets and views: Numbers, Seqs, UIDs. -/
import Derived.Test.YtamholmjppgfiaaGreatRefW
set_option linter.unusedVariables false
set_option linter.unusedSimpArgs false
namespace Go.Proofs.YtamholmjppgfiaaGreat
open Go Go.RowKit Go.Shelf Go.Lib Go.Sort

theorem numsOf_has (top : Nat) (l : List Rng) : (nums 1 top).filter (fun n => hasB top n l) = numsOf top l := by
  unfold numsOf
  cases hv : validB top l with
  | false =>
    rw [if_neg Bool.false_ne_true]
    rw [List.filter_eq_nil_iff]
    intro n _
    unfold hasB
    rw [hv]
    simp
  | true =>
    rw [if_pos rfl]
    apply List.filter_congr
    intro n _
    unfold hasB
    rw [hv, Bool.true_and, anyR_map]
set_option maxRecDepth 100000 in
set_option maxHeartbeats 1600000 in
theorem ref_numbers (top : Nat) (ht : top ≤ 1048576) (l : List Rng) (v : Value) (w : World) (h : RgL w w.heap.size v l) (hl : l.length ≤ 1048576) :
    Calls Tryz.prog 42 #[.int .u32 top, v] w fun e w' => ∃ v', e = .returned v' ∧ Buf w' w.heap.size 1 v' (numsOf top l).length ((numsOf top l).map n32) ∧ Below w.heap.size w w' := by
  have HE := Lib.hid (numsOf_has top l)
  rw [← HE.out]
  have HH := Lib.hid (fun n W (hb : Below w.heap.size w W) => ref_has top n l v W ((h.below hb (Nat.le_refl _)).mono hb.size) hl)
  clear h
  have htI : (top : Int) ≤ 1048576 := by omega
  go_enter Tryz.func42, Tryz.ntmps42
  go_wp2_with fail
  go_loopw [5, 6] (fun s5 i wr => ∃ (q : Nat) (sv : Value), sv = s5 ∧ i = .int .u32 q ∧ 1 ≤ q ∧ q ≤ top + 1 ∧ Buf wr w.heap.size 1 sv ((nums 1 (q - 1)).filter (fun n => hasB top n l)).length (((nums 1 (q - 1)).filter (fun n => hasB top n l)).map n32) ∧ Below w.heap.size w wr) (fun _ i _ => top + 1 - (intOf i).toNat)
  case atStart => exact ⟨1, _, rfl, rfl, Nat.le_refl _, by omega, Buf.nil _ _ _, Below.refl _ _⟩
  case round =>
    obtain ⟨q, sv, rfl, rfl, hq1, hq2, hbuf, hbel⟩ := hrel
    have hqI : (q : Int) ≤ top + 1 := by omega
    have hwr : IntKind.u32.wrap ((q : Int) + 1) = (q : Int) + 1 := by simp [IntKind.wrap, IntKind.bits, IntKind.signed]; omega
    by_cases hlt : q ≤ top
    · have hltI : (q : Int) ≤ top := by omega
      have HF := Lib.hid (HH.out q wr hbel)
      have hsn : nums 1 (q + 1 - 1) = nums 1 (q - 1) ++ [q] := by
        rw [show q + 1 - 1 = (q - 1) + 1 by omega, nums_snoc (by omega), show q - 1 + 1 = q by omega]
      have hlen : ((nums 1 (q - 1)).filter (fun n => hasB top n l)).length ≤ 1048576 := by
        have := List.length_filter_le (fun n => hasB top n l) (nums 1 (q - 1))
        rw [nums_len] at this
        omega
      have HS := Lib.hid (And.intro hsn hlen)
      have HB := Lib.hid (And.intro hbuf hbel)
      clear hsn hlen hbuf hbel
      cases hh : hasB top q l with
      | true =>
        have HT := Lib.hid hh
        rw [hh] at HF
        clear hh
        go_wp2_with fail
        refine HF.out.mono ?_
        rintro e w3 ⟨rfl, rfl⟩
        obtain ⟨g, o2, c2, w4, hrun, hb4, hbel4⟩ := push_one Tryz.underlying23 infoU32 rfl (by decide) HB.out.1 (.int .u32 (q : Nat)) rfl (HB.out.2.size) HS.out.2
        have HR := Lib.hid hrun
        have HE4 := Lib.hid (And.intro hb4 hbel4)
        clear hrun hb4 hbel4
        go_wp2_with (at_builtin; refine wpList_append_run _ rfl (.tmp 16) (.tmp 18) _ _ rfl _ _ rfl rfl _ _ HR.out ?_)
        go_roundw
        case rel =>
          refine ⟨q + 1, _, rfl, by go_num, by omega, by omega, ?_, HB.out.2.trans HE4.out.2⟩
          rw [HS.out.1, List.filter_append, List.filter_cons_of_pos (by exact HT.out), List.filter_nil, List.map_append, List.length_append]
          exact HE4.out.1
        case measure => simp [intOf]; omega
      | false =>
        have HT := Lib.hid hh
        rw [hh] at HF
        clear hh
        go_wp2_with fail
        refine HF.out.mono ?_
        rintro e w3 ⟨rfl, rfl⟩
        go_wp2_with fail
        go_roundw
        case rel =>
          refine ⟨q + 1, _, rfl, by go_num, by omega, by omega, ?_, HB.out.2⟩
          rw [HS.out.1, List.filter_append, List.filter_cons_of_neg (by rw [HT.out]; simp), List.filter_nil, List.append_nil]
          exact HB.out.1
        case measure => simp [intOf]; omega
    · obtain rfl : q = top + 1 := by omega
      have hltI : decide (((top + 1 : Nat) : Int) ≤ top) = false := decide_eq_false (by omega)
      have hltP : ¬ (((top + 1 : Nat) : Int) ≤ top) := by omega
      rw [Nat.add_sub_cancel] at hbuf
      have HB := Lib.hid (And.intro hbuf hbel)
      clear hbuf hbel
      go_wp2_with fail
      go_ret
      exact ⟨sv, rfl, HB.out.1, HB.out.2⟩

set_option maxRecDepth 100000 in
set_option maxHeartbeats 1600000 in
theorem ref_seqs (vl : List Int) (vv : Value) (l : List Rng) (v : Value) (w : World) (hV : U32 w w.heap.size vv vl) (h : RgL w w.heap.size v l) (hvl : vl.length ≤ 1048576) (hl : l.length ≤ 1048576) :
    Calls Tryz.prog 29 #[vv, v] w fun e w' => ∃ v', e = .returned (.tuple #[v', .bool (validB vl.length l)]) ∧ Buf w' w.heap.size 1 v' (numsOf vl.length l).length ((numsOf vl.length l).map i64N) ∧ Below w.heap.size w w' := by
  obtain ⟨A, cap, rfl, -, -⟩ := hV
  obtain ⟨top, ht⟩ : ∃ top, vl.length = top := ⟨_, rfl⟩
  rw [ht] at hvl ⊢
  have HV := Lib.hid (ref_valid top l v w h hl)
  have HN := Lib.hid (ref_numbers top hvl l v w h hl)
  have hw : IntKind.u32.wrap (top : Int) = top := by simp [IntKind.wrap, IntKind.bits, IntKind.signed]; omega
  clear ht h
  cases hv : validB top l with
  | false =>
    have HX : Hid (numsOf top l = []) := Lib.hid (by unfold numsOf; rw [hv]; rfl)
    rw [hv] at HV
    rw [HX.out]
    clear hv
    go_enter Tryz.func29, Tryz.ntmps29
    go_wp2_with fail
    refine HV.out.mono ?_
    rintro e w' ⟨rfl, rfl⟩
    go_wp2_with fail
    go_ret2
    exact ⟨.slice none 0 0, rfl, Buf.nil _ _ _, Below.refl _ _⟩
  | true =>
    rw [hv] at HV
    obtain ⟨ns, hns⟩ : ∃ ns, numsOf top l = ns := ⟨_, rfl⟩
    have hbd : ∀ n ∈ ns, n ≤ top := fun n hn => (numsOf_mem (by rw [hns]; exact hn)).2
    have hlen := numsOf_len top l
    rw [hns] at HN hlen ⊢
    obtain ⟨m, hm⟩ : ∃ m, ns.length = m := ⟨_, rfl⟩
    rw [hm] at HN hlen ⊢
    have HX := Lib.hid (And.intro hbd hm)
    have hmI : (m : Int) ≤ 1048576 := by omega
    clear hv hns hbd hm
    go_enter Tryz.func29, Tryz.ntmps29
    go_wp2_with fail
    refine HV.out.mono ?_
    rintro e w' ⟨rfl, rfl⟩
    go_wp2_with fail
    refine HN.out.mono ?_
    rintro e w1 ⟨v1, rfl, hb1, hbel1⟩
    have hml : (ns.map n32).length = m := by rw [List.length_map]; exact HX.out.2
    obtain ⟨A1, cap1, rfl, hcap1, hc1⟩ := Rd1.of_buf hb1
    rw [hml] at hcap1 hc1 hb1 ⊢
    have H1 := Lib.hid (And.intro hc1 hbel1)
    clear hc1 hbel1 hb1 hml
    go_wp2_with fail
    go_loopw [6, 8] (fun s6 i wr => ∃ (k : Nat) (sv : Value), k ≤ m ∧ sv = s6 ∧ i = .int .i64 k ∧ Buf wr w1.heap.size 1 sv k ((ns.take k).map i64N) ∧ Below w1.heap.size w1 wr) (fun _ i _ => m - (intOf i).toNat)
    case atStart => exact ⟨0, _, Nat.zero_le _, rfl, rfl, Buf.nil _ _ _, Below.refl _ _⟩
    case round =>
      obtain ⟨k, sv, hk, rfl, rfl, hbuf, hbel⟩ := hrel
      have hkI : (k : Int) ≤ m := by omega
      by_cases hlt : k < m
      · have hltI : (k : Int) < m := by omega
        have hkl : k < ns.length := by have := HX.out.2; omega
        obtain ⟨x, hxe⟩ : ∃ x, ns[k] = x := ⟨_, rfl⟩
        have hx : ns[k]? = some x := by rw [List.getElem?_eq_getElem hkl, hxe]
        obtain ⟨b, o, rfl, hb, hcl⟩ := H1.out.1 (by omega)
        have c0 : wr.cell? ⟨b, o + k, none⟩ = some (.int .u32 (x : Nat)) := (hbel.cell (p := ⟨b, o + k, none⟩) hb).trans (hcl k (n32 x) (by rw [List.getElem?_map, hx]; rfl))
        have hxl := HX.out.1 x (List.mem_of_getElem? hx)
        have hwx : IntKind.i64.wrap (x : Int) = x := by simp [IntKind.wrap, IntKind.bits, IntKind.signed]; omega
        obtain ⟨g, o2, c2, w4, hrun, hb4, hbel4⟩ := push_one Tryz.underlying37 infoI64 rfl (by decide) hbuf (.int .i64 (x : Nat)) rfl hbel.size (by omega)
        have HR := Lib.hid hrun
        have HB := Lib.hid (And.intro hb4 (And.intro (hbel.trans hbel4) hxe))
        clear hrun hb4 hbel4 hbuf hbel hxe hx hcl hxl
        go_wp2_with (at_builtin; refine wpList_append_run _ rfl (.tmp 26) (.tmp 32) _ _ rfl _ _ rfl rfl _ _ HR.out ?_)
        go_roundw
        case rel =>
          refine ⟨k + 1, _, by omega, rfl, by go_num, ?_, HB.out.2.1⟩
          rw [List.take_succ_eq_append_getElem hkl, List.map_append, HB.out.2.2]
          exact HB.out.1
        case measure => simp [intOf]; omega
      · obtain rfl : k = m := by omega
        rw [List.take_of_length_le (by have := HX.out.2; omega)] at hbuf
        have HB := Lib.hid (And.intro hbuf hbel)
        clear hbuf hbel
        go_wp2_with fail
        go_ret2
        have hs := H1.out.2.size
        exact ⟨sv, rfl, HB.out.1.mono hs, H1.out.2.trans (HB.out.2.mono hs)⟩

set_option maxRecDepth 100000 in
set_option maxHeartbeats 1600000 in
theorem ref_uids (vl : List Int) (vv : Value) (l : List Rng) (v : Value) (w : World) (hV : U32 w w.heap.size vv vl) (h : RgL w w.heap.size v l) (hvl : vl.length ≤ 1048576) (hl : l.length ≤ 1048576) :
    Calls Tryz.prog 16 #[vv, v] w fun e w' => ∃ v', e = .returned (.tuple #[v', .bool (validB vl.length l)]) ∧ B32 w' w.heap.size v' (uidsOf vl l) ∧ Below w.heap.size w w' := by
  have HS := Lib.hid (ref_seqs vl vv l v w hV h hvl hl)
  obtain ⟨A, cap, rfl, hcap, hc⟩ := hV
  obtain ⟨top, ht⟩ : ∃ top, vl.length = top := ⟨_, rfl⟩
  have HU : Hid (uidsOf vl l = (numsOf vl.length l).map fun n => vl[n - 1]!) := Lib.hid rfl
  rw [HU.out]
  rw [ht] at HS hcap hc hvl ⊢
  obtain ⟨ok, hok⟩ : ∃ ok, validB top l = ok := ⟨_, rfl⟩
  obtain ⟨ns, hns⟩ : ∃ ns, numsOf top l = ns := ⟨_, rfl⟩
  have hbd : ∀ n ∈ ns, 1 ≤ n ∧ n ≤ top := fun n hn => numsOf_mem (by rw [hns]; exact hn)
  have hlen := numsOf_len top l
  rw [hok, hns] at HS
  rw [hns] at hlen
  rw [hok, hns]
  obtain ⟨m, hm⟩ : ∃ m, ns.length = m := ⟨_, rfl⟩
  rw [hm] at HS hlen
  have HX := Lib.hid (And.intro hbd (And.intro hm (And.intro hc ht)))
  have hmI : (m : Int) ≤ 1048576 := by omega
  have htI : (top : Int) ≤ 1048576 := by omega
  clear hok hns hbd hm HU h hc ht
  go_enter Tryz.func16, Tryz.ntmps16
  go_wp2_with fail
  refine HS.out.mono ?_
  rintro e w1 ⟨v1, rfl, hb1, hbel1⟩
  have hml : (ns.map i64N).length = m := by rw [List.length_map]; exact HX.out.2.1
  obtain ⟨A1, cap1, rfl, hcap1, hc1⟩ := Rd1.of_buf hb1
  rw [hml] at hcap1 hc1 hb1 ⊢
  have H1 := Lib.hid (And.intro hc1 hbel1)
  clear hc1 hbel1 hb1 hml
  go_wp2_with fail
  go_loopw [8, 9] (fun s8 i wr => ∃ (k : Nat) (sv : Value), k ≤ m ∧ sv = s8 ∧ i = .int .i64 k ∧ Buf wr w1.heap.size 1 sv k ((ns.take k).map fun n => .int .u32 vl[n - 1]!) ∧ Below w1.heap.size w1 wr) (fun _ i _ => m - (intOf i).toNat)
  case atStart => exact ⟨0, _, Nat.zero_le _, rfl, rfl, Buf.nil _ _ _, Below.refl _ _⟩
  case round =>
    obtain ⟨k, sv, hk, rfl, rfl, hbuf, hbel⟩ := hrel
    have hkI : (k : Int) ≤ m := by omega
    by_cases hlt : k < m
    · have hltI : (k : Int) < m := by omega
      have hkl : k < ns.length := by have := HX.out.2.1; omega
      obtain ⟨x, hxe⟩ : ∃ x, ns[k] = x := ⟨_, rfl⟩
      have hx : ns[k]? = some x := by rw [List.getElem?_eq_getElem hkl, hxe]
      obtain ⟨hx1, hx2⟩ := HX.out.1 x (List.mem_of_getElem? hx)
      obtain ⟨b, o, rfl, hb, hcl⟩ := H1.out.1 (by omega)
      have c0 : wr.cell? ⟨b, o + k, none⟩ = some (.int .i64 (x : Nat)) := (hbel.cell (p := ⟨b, o + k, none⟩) hb).trans (hcl k (i64N x) (by rw [List.getElem?_map, hx]; rfl))
      obtain ⟨b2, o3, rfl, hb2, hcl2⟩ := HX.out.2.2.1 (by omega)
      obtain ⟨y, hy⟩ : ∃ y, x - 1 = y := ⟨_, rfl⟩
      have hyt : y < top := by omega
      have hyl : y < vl.length := by have := HX.out.2.2.2; omega
      have e1 := hcl2 y vl[y]! (by rw [List.getElem?_eq_getElem hyl, getElem!_pos vl y hyl])
      have c1 : wr.cell? ⟨b2, o3 + y, none⟩ = some (.int .u32 vl[y]!) := (hbel.cell (p := ⟨b2, o3 + y, none⟩) (Nat.lt_of_lt_of_le hb2 H1.out.2.size)).trans ((H1.out.2.cell (p := ⟨b2, o3 + y, none⟩) hb2).trans e1)
      have hyI : (x : Int) - 1 = (y : Int) := by omega
      have hytI : (y : Int) < top := by omega
      have hwx : IntKind.i64.wrap (y : Int) = y := by simp [IntKind.wrap, IntKind.bits, IntKind.signed]; omega
      obtain ⟨z, hz⟩ : ∃ z, vl[y]! = z := ⟨_, rfl⟩
      rw [hz] at c1
      obtain ⟨g, o2, c2, w4, hrun, hb4, hbel4⟩ := push_one Tryz.underlying23 infoU32 rfl (by decide) hbuf (.int .u32 z) rfl hbel.size (by omega)
      have HR := Lib.hid hrun
      have HB := Lib.hid (And.intro hb4 (And.intro (hbel.trans hbel4) (And.intro hxe (And.intro hy hz))))
      clear hrun hb4 hbel4 hbuf hbel hxe hx hcl hcl2 e1 hy hz hyl
      go_wp2_with (at_builtin; refine wpList_append_run _ rfl (.tmp 22) (.tmp 31) _ _ rfl _ _ rfl rfl _ _ HR.out ?_)
      go_roundw
      case rel =>
        refine ⟨k + 1, _, by omega, rfl, by go_num, ?_, HB.out.2.1⟩
        rw [List.take_succ_eq_append_getElem hkl, List.map_append, HB.out.2.2.1]
        simp only [List.map_cons, List.map_nil, HB.out.2.2.2.1, HB.out.2.2.2.2]
        exact HB.out.1
      case measure => simp [intOf]; omega
    · obtain rfl : k = m := by omega
      rw [List.take_of_length_le (by have := HX.out.2.1; omega)] at hbuf
      have HB := Lib.hid (And.intro hbuf hbel)
      clear hbuf hbel
      go_wp2_with fail
      go_ret2
      have hs := H1.out.2.size
      refine ⟨sv, rfl, ?_, H1.out.2.trans (HB.out.2.mono hs)⟩
      have := HB.out.1.mono hs
      unfold B32
      rw [List.length_map, List.map_map, HX.out.2.1]
      exact this
end Go.Proofs.YtamholmjppgfiaaGreat
