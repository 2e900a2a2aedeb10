/- The reference of the plans: every, locks, Inbox, and of resolve: In, Stripes. The reference's For. -/
import Derived.Test.YtamholmjppgfiaaGreatPlanA
import Derived.Test.YtamholmjppgfiaaGreatRefX
import Derived.Test.YtamholmjppgfiaaGreatE
import Derived.Test.YtamholmjppgfiaaGreatPlanC
set_option linter.unusedVariables false
set_option linter.unusedSimpArgs false
namespace Go.Proofs.YtamholmjppgfiaaGreat
open Go Go.RowKit Go.Shelf Go.Lib Go.Sort

theorem runL_next (k : Nat) : runL 0 ((k + 1 : Nat) : Int) = runL 0 k ++ [(k : Int)] := by
  rw [show ((k + 1 : Nat) : Int) = (k : Int) + 1 by omega]
  exact runL_snoc (by omega)

set_option maxRecDepth 100000 in
set_option maxHeartbeats 1600000 in
theorem every_any (n : Nat) (hn : n ≤ 100) (w : World) :
    Calls Tryz.prog 24 #[.int .i64 n] w fun e w' => ∃ v', e = .returned v' ∧ Buf w' w.heap.size 1 v' n ((runL 0 n).map (Value.int .i64)) ∧ Below w.heap.size w w' := by
  go_enter Tryz.func24, Tryz.ntmps24
  go_wp2_with fail
  go_loopw [3, 4] (fun s3 i wr => ∃ (k : Nat) (sv : Value), k ≤ n ∧ sv = s3 ∧ i = .int .i64 k ∧ Buf wr w.heap.size 1 sv k ((runL 0 k).map (Value.int .i64)) ∧ Below w.heap.size w wr) (fun _ i _ => n - (intOf i).toNat)
  case atStart => exact ⟨0, _, Nat.zero_le _, rfl, rfl, Buf.nil _ _ _, Below.refl _ _⟩
  case round =>
    obtain ⟨k, sv, hk, rfl, rfl, hbuf, hbel⟩ := hrel
    have hkI : (k : Int) ≤ n := by omega
    by_cases hlt : k < n
    · have hltI : (k : Int) < n := by omega
      obtain ⟨g, o2, c2, w4, hrun, hb4, hbel4⟩ := push_one Tryz.underlying37 infoI64 rfl (by decide) hbuf (.int .i64 (k : Nat)) rfl hbel.size (by omega)
      have HR := Lib.hid hrun
      have HB := Lib.hid (And.intro hb4 (hbel.trans hbel4))
      clear hrun hb4 hbel4 hbuf hbel
      go_wp2_with (at_builtin; refine wpList_append_run _ rfl (.tmp 10) (.tmp 12) _ _ rfl _ _ rfl rfl _ _ HR.out ?_)
      go_roundw
      case rel =>
        refine ⟨k + 1, _, by omega, rfl, by go_num, ?_, HB.out.2⟩
        rw [runL_next, List.map_append]
        exact HB.out.1
      case measure => simp [intOf]; omega
    · obtain rfl : k = n := by omega
      have HB := Lib.hid (And.intro hbuf hbel)
      clear hbuf hbel
      go_wp2_with fail
      go_ret
      exact ⟨sv, rfl, HB.out.1, HB.out.2⟩

theorem inbox_const : upS ⟨#[73, 78, 66, 79, 88]⟩ = ⟨#[73, 78, 66, 79, 88]⟩ := by decide
theorem inbox_lit (mb : ByteArray) : Ending.returned (Value.bool ((upS mb).toList == [73, 78, 66, 79, 88])) = .returned (.bool (eqS (upS mb) ⟨#[73, 78, 66, 79, 88]⟩)) := by
  unfold eqS
  rw [ByteArray.toList_eq ⟨#[73, 78, 66, 79, 88]⟩]
set_option maxRecDepth 100000 in
set_option maxHeartbeats 1600000 in
theorem inbox_any (mb : ByteArray) (hm : mb.size ≤ 1048576) (w : World) :
    Calls Tryz.prog 23 #[.string mb] w fun e w' => e = .returned (.bool (eqS (upS mb) (upS ⟨#[73, 78, 66, 79, 88]⟩))) ∧ Below w.heap.size w w' := by
  have HU := Lib.hid (rUpper_any mb w hm)
  rw [inbox_const]
  go_enter Tryz.func23, Tryz.ntmps23
  go_wp2_with fail
  refine HU.out.mono ?_
  rintro e w1 ⟨rfl, hb⟩
  have HB := Lib.hid hb
  clear hb
  go_wp2_with fail
  go_ret
  exact ⟨inbox_lit mb, HB.out⟩

theorem take_filter_yes {p : Int → Bool} {us : List Int} {k : Nat} (hk : k < us.length) (h : p us[k] = true) : (us.take (k + 1)).filter p = (us.take k).filter p ++ [us[k]] := by
  rw [List.take_succ_eq_append_getElem hk, List.filter_append]
  simp [h]
theorem take_filter_no {p : Int → Bool} {us : List Int} {k : Nat} (hk : k < us.length) (h : p us[k] = false) : (us.take (k + 1)).filter p = (us.take k).filter p := by
  rw [List.take_succ_eq_append_getElem hk, List.filter_append]
  simp [h]
set_option maxRecDepth 100000 in
set_option maxHeartbeats 1600000 in
theorem in_any (n : Nat) (h0 : 0 < n) (hn : n ≤ 100) (t : Int) (us : List Int) (v : Value) (w : World) (hU : U32 w w.heap.size v us) (hl : us.length ≤ 1000) (hb : ∀ u ∈ us, 0 ≤ u ∧ u < 4294967296) :
    Calls Tryz.prog 18 #[.int .i64 n, .int .i64 t, v] w fun e w' => ∃ v', e = .returned v' ∧ B32 w' w.heap.size v' (us.filter fun u => decide (u % (n : Int) = t)) ∧ Below w.heap.size w w' := by
  obtain ⟨A, cap, rfl, hcap, hc⟩ := hU
  obtain ⟨m, hm⟩ : ∃ m, us.length = m := ⟨_, rfl⟩
  rw [hm] at hcap hc hl ⊢
  have HX := Lib.hid (And.intro hm (And.intro hc hb))
  have hmI : (m : Int) ≤ 1000 := by omega
  have hnne : ¬ ((n : Int) = 0) := by omega
  have hnb : ((n : Int) == 0) = false := by simpa using hnne
  have hn1 : ¬ ((n : Int) = -1) := by omega
  clear hm hc hb
  go_enter Tryz.func18, Tryz.ntmps18
  go_wp2_with fail
  go_loopw [7, 8] (fun s7 i wr => ∃ (k : Nat) (sv : Value), k ≤ m ∧ sv = s7 ∧ i = .int .i64 k ∧ Buf wr w.heap.size 1 sv ((us.take k).filter fun u => decide (u % (n : Int) = t)).length (((us.take k).filter fun u => decide (u % (n : Int) = t)).map (Value.int .u32)) ∧ Below w.heap.size w wr) (fun _ i _ => m - (intOf i).toNat)
  case atStart => exact ⟨0, _, Nat.zero_le _, rfl, rfl, Buf.nil _ _ _, Below.refl _ _⟩
  case round =>
    obtain ⟨k, sv, hk, rfl, rfl, hbuf, hbel⟩ := hrel
    have hkI : (k : Int) ≤ m := by omega
    by_cases hlt : k < m
    · have hltI : (k : Int) < m := by omega
      have hkl : k < us.length := by have := HX.out.1; omega
      obtain ⟨x, hxe⟩ : ∃ x, us[k] = x := ⟨_, rfl⟩
      have hx : us[k]? = some x := by rw [List.getElem?_eq_getElem hkl, hxe]
      obtain ⟨b, o, rfl, hb, hcl⟩ := HX.out.2.1 (by omega)
      have c0 : wr.cell? ⟨b, o + k, none⟩ = some (.int .u32 x) := (hbel.cell (p := ⟨b, o + k, none⟩) hb).trans (hcl k x hx)
      have hxb := HX.out.2.2 x (List.mem_of_getElem? hx)
      have htm : x.tmod n = x % n := Int.tmod_eq_emod_of_nonneg hxb.1
      have hr0 := Int.emod_nonneg x hnne
      have hr1 := Int.emod_lt_of_pos x (show 0 < (n : Int) by omega)
      obtain ⟨r, hr⟩ : ∃ r, x % (n : Int) = r := ⟨_, rfl⟩
      rw [hr] at htm hr0 hr1
      have hwx : IntKind.i64.wrap x = x := by simp [IntKind.wrap, IntKind.bits, IntKind.signed]; omega
      have hwr : IntKind.i64.wrap r = r := by simp [IntKind.wrap, IntKind.bits, IntKind.signed]; omega
      have hfl : ((us.take k).filter fun u => decide (u % (n : Int) = t)).length ≤ 1048576 := by
        have := List.length_filter_le (fun u => decide (u % (n : Int) = t)) (us.take k)
        rw [List.length_take] at this
        omega
      by_cases hrt : r = t
      · have hyes := take_filter_yes (p := fun u => decide (u % (n : Int) = t)) hkl (by rw [hxe]; simp only [hr, hrt, decide_true])
        rw [hxe] at hyes
        subst hrt
        obtain ⟨g, o2, c2, w4, hrun, hb4, hbel4⟩ := push_one Tryz.underlying23 infoU32 rfl (by decide) hbuf (.int .u32 x) rfl hbel.size hfl
        have HR := Lib.hid hrun
        have HB := Lib.hid (And.intro hb4 (And.intro (hbel.trans hbel4) hyes))
        clear hrun hb4 hbel4 hbuf hbel hxe hx hcl hyes hfl hr
        go_wp2_with (at_builtin; refine wpList_append_run _ rfl (.tmp 24) (.tmp 29) _ _ rfl _ _ rfl rfl _ _ HR.out ?_)
        go_roundw
        case rel =>
          refine ⟨k + 1, _, by omega, rfl, by go_num, ?_, HB.out.2.1⟩
          rw [HB.out.2.2, List.map_append, List.length_append]
          exact HB.out.1
        case measure => simp [intOf]; omega
      · have hno := take_filter_no (p := fun u => decide (u % (n : Int) = t)) hkl (by rw [hxe]; simp only [hr]; exact decide_eq_false hrt)
        have hrb : (r == t) = false := by simpa using hrt
        have HB := Lib.hid (And.intro hbuf (And.intro hbel hno))
        clear hbuf hbel hxe hx hcl hno hfl hr
        go_wp2_with fail
        go_roundw
        case rel =>
          refine ⟨k + 1, _, by omega, rfl, by go_num, ?_, HB.out.2.1⟩
          rw [HB.out.2.2]
          exact HB.out.1
        case measure => simp [intOf]; omega
    · obtain rfl : k = m := by omega
      rw [List.take_of_length_le (by have := HX.out.1; omega)] at hbuf
      have HB := Lib.hid (And.intro hbuf hbel)
      clear hbuf hbel
      go_wp2_with fail
      go_ret
      exact ⟨sv, rfl, HB.out.1, HB.out.2⟩

def tryL (n : Nat) (us : List Int) (k : Nat) : List Int := (runL 0 k).filter (fun t => decide (0 < (us.filter fun u => decide (u % (n : Int) = t)).length))
theorem tryL_len (n : Nat) (us : List Int) (k : Nat) : (tryL n us k).length ≤ k := by
  have := List.length_filter_le (fun t => decide (0 < (us.filter fun u => decide (u % (n : Int) = t)).length)) (runL 0 k)
  rw [runL_len] at this
  unfold tryL
  omega
theorem tryL_yes {n : Nat} {us : List Int} {k : Nat} (h : 0 < (us.filter fun u => decide (u % (n : Int) = (k : Int))).length) : tryL n us (k + 1) = tryL n us k ++ [(k : Int)] := by
  unfold tryL
  rw [runL_next, List.filter_append, List.filter_cons_of_pos (by simpa using h), List.filter_nil]
theorem tryL_no {n : Nat} {us : List Int} {k : Nat} (h : ¬ 0 < (us.filter fun u => decide (u % (n : Int) = (k : Int))).length) : tryL n us (k + 1) = tryL n us k := by
  unfold tryL
  rw [runL_next, List.filter_append, List.filter_cons_of_neg (by simpa using h), List.filter_nil, List.append_nil]
set_option maxRecDepth 100000 in
set_option maxHeartbeats 1600000 in
theorem rstripes_any (n : Nat) (h0 : 0 < n) (hn : n ≤ 100) (us : List Int) (v : Value) (w : World) (hU : U32 w w.heap.size v us) (hl : us.length ≤ 1000) (hb : ∀ u ∈ us, 0 ≤ u ∧ u < 4294967296) :
    Calls Tryz.prog 25 #[.int .i64 n, v] w fun e w' => ∃ v', e = .returned v' ∧ Buf w' w.heap.size 1 v' (stripeL n us).length ((stripeL n us).map (Value.int .i64)) ∧ Below w.heap.size w w' := by
  have HI := Lib.hid (fun (t : Int) W (hbl : Below w.heap.size w W) => in_any n h0 hn t us v W ((hU.below hbl (Nat.le_refl _)).mono hbl.size) hl hb)
  have HE : Hid (stripeL n us = tryL n us n) := Lib.hid (stripe_try h0 (fun u hu => (hb u hu).1)).symm
  rw [HE.out]
  clear hU hb
  go_enter Tryz.func25, Tryz.ntmps25
  go_wp2_with fail
  go_loopw [5, 6] (fun s5 i wr => ∃ (k : Nat) (sv : Value), k ≤ n ∧ sv = s5 ∧ i = .int .i64 k ∧ Buf wr w.heap.size 1 sv (tryL n us k).length ((tryL n us k).map (Value.int .i64)) ∧ Below w.heap.size w wr) (fun _ i _ => n - (intOf i).toNat)
  case atStart => exact ⟨0, _, Nat.zero_le _, rfl, rfl, Buf.nil _ _ _, Below.refl _ _⟩
  case round =>
    obtain ⟨k, sv, hk, rfl, rfl, hbuf, hbel⟩ := hrel
    have hkI : (k : Int) ≤ n := by omega
    by_cases hlt : k < n
    · have hltI : (k : Int) < n := by omega
      have HN := Lib.hid (HI.out k wr hbel)
      have hB0 := Lib.hid (And.intro hbuf hbel)
      have htl := tryL_len n us k
      obtain ⟨c, hc⟩ : ∃ c, (us.filter fun u => decide (u % (n : Int) = (k : Int))).length = c := ⟨_, rfl⟩
      have hcl : c ≤ 1000 := by
        have := List.length_filter_le (fun u => decide (u % (n : Int) = (k : Int))) us
        omega
      clear hbuf hbel
      by_cases hc0 : 0 < c
      · have hyes := tryL_yes (n := n) (us := us) (k := k) (by rw [hc]; exact hc0)
        have HY := Lib.hid (And.intro hyes hc)
        have hcI : 0 < (c : Int) := by omega
        clear hyes hc
        go_wp2_with fail
        refine HN.out.mono ?_
        rintro e w1 ⟨v1, rfl, hb1, hbl1⟩
        have hsh := hb1.shape
        rw [HY.out.2] at hsh
        obtain ⟨A1, c1, rfl⟩ : ∃ A1 c1, v1 = .slice A1 c c1 := by
          rcases hsh with ⟨rfl, e0⟩ | ⟨g, off, cap, rfl, _⟩
          · have := HY.out.2
            rw [e0] at this
            exact ⟨none, 0, by rw [← this]; rfl⟩
          · exact ⟨_, _, rfl⟩
        have hbuf1 : Buf w1 w.heap.size 1 sv (tryL n us k).length ((tryL n us k).map (Value.int .i64)) := hB0.out.1.below hbl1 (Nat.le_refl _)
        have hbel1 := hB0.out.2.trans (hbl1.mono hB0.out.2.size)
        obtain ⟨g, o2, c2, w4, hrun, hb4, hbel4⟩ := push_one Tryz.underlying37 infoI64 rfl (by decide) hbuf1 (.int .i64 (k : Nat)) rfl hbel1.size (by omega)
        have HR := Lib.hid hrun
        have HB := Lib.hid (And.intro hb4 (hbel1.trans hbel4))
        clear hrun hb4 hbel4 hbuf1 hbel1 hsh hb1 hbl1 htl
        go_wp2_with (at_builtin; refine wpList_append_run _ rfl (.tmp 18) (.tmp 20) _ _ rfl _ _ rfl rfl _ _ HR.out ?_)
        go_roundw
        case rel =>
          refine ⟨k + 1, _, by omega, rfl, by go_num, ?_, HB.out.2⟩
          rw [HY.out.1, List.map_append, List.length_append]
          exact HB.out.1
        case measure => simp [intOf]; omega
      · have hno := tryL_no (n := n) (us := us) (k := k) (by rw [hc]; exact hc0)
        obtain rfl : c = 0 := by omega
        have HY := Lib.hid (And.intro hno hc)
        clear hno hc
        go_wp2_with fail
        refine HN.out.mono ?_
        rintro e w1 ⟨v1, rfl, hb1, hbl1⟩
        have hsh := hb1.shape
        rw [HY.out.2] at hsh
        obtain ⟨A1, c1, rfl⟩ : ∃ A1 c1, v1 = .slice A1 0 c1 := by
          rcases hsh with ⟨rfl, e0⟩ | ⟨g, off, cap, rfl, _⟩
          · exact ⟨none, 0, rfl⟩
          · exact ⟨_, _, rfl⟩
        have HB := Lib.hid (And.intro (show Buf w1 w.heap.size 1 sv (tryL n us k).length ((tryL n us k).map (Value.int .i64)) from hB0.out.1.below hbl1 (Nat.le_refl _)) (hB0.out.2.trans (hbl1.mono hB0.out.2.size)))
        clear hsh hb1 hbl1 htl
        go_wp2_with fail
        go_roundw
        case rel =>
          refine ⟨k + 1, _, by omega, rfl, by go_num, ?_, HB.out.2⟩
          rw [HY.out.1]
          exact HB.out.1
        case measure => simp [intOf]; omega
    · obtain rfl : k = n := by omega
      have HB := Lib.hid (And.intro hbuf hbel)
      clear hbuf hbel
      go_wp2_with fail
      go_ret
      exact ⟨sv, rfl, HB.out.1, HB.out.2⟩

/-- The queues that are taken before number k. -/
def tookL (own : Int) (all : Bool) (st : Int) (k : Nat) : List Int := ((runL 0 k).filter fun i => all || decide (i = own)).map fun i => 1 + st + i
theorem tookL_len (own : Int) (all : Bool) (st : Int) (k : Nat) : (tookL own all st k).length ≤ k := by
  unfold tookL
  rw [List.length_map]
  have := List.length_filter_le (fun i => all || decide (i = own)) (runL 0 k)
  rw [runL_len] at this
  omega
theorem tookL_yes {own : Int} {all : Bool} {st : Int} {k : Nat} (h : (all || decide ((k : Int) = own)) = true) : tookL own all st (k + 1) = tookL own all st k ++ [1 + st + (k : Int)] := by
  unfold tookL
  rw [runL_next, List.filter_append, List.filter_cons_of_pos (by simpa using h), List.filter_nil, List.map_append]
  rfl
theorem tookL_no {own : Int} {all : Bool} {st : Int} {k : Nat} (h : (all || decide ((k : Int) = own)) = false) : tookL own all st (k + 1) = tookL own all st k := by
  unfold tookL
  rw [runL_next, List.filter_append, List.filter_cons_of_neg (by simpa using h), List.filter_nil, List.append_nil]

set_option maxRecDepth 100000 in
set_option maxHeartbeats 3200000 in
theorem locks_no (st ss : Nat) (hst : st ≤ 100) (hss : ss ≤ 100) (s : List Int) (v : Value) (own : Int) (all : Bool) (w : World) (hs : Rd1 w w.heap.size v (s.map (Value.int .i64))) (hsl : s.length ≤ 100) (hsb : ∀ x ∈ s, 0 ≤ x ∧ x ≤ 1000) :
    Calls Tryz.prog 22 #[.int .i64 st, .int .i64 ss, .bool false, v, .int .i64 own, .bool all] w fun e w' => ∃ v', e = .returned v' ∧ Buf w' w.heap.size 1 v' (lockL st ss false s own all).length ((lockL st ss false s own all).map (Value.int .i64)) ∧ Below w.heap.size w w' := by
  have HE : Hid (lockL st ss false s own all = ([] : List Int) ++ s.map (fun x => 1 + x) ++ tookL own all st ss) := Lib.hid rfl
  rw [HE.out]
  obtain ⟨RES, hRES⟩ : ∃ RES, ([] : List Int) ++ s.map (fun x => 1 + x) ++ tookL own all st ss = RES := ⟨_, rfl⟩
  rw [hRES]
  have HRES := Lib.hid hRES
  clear hRES
  obtain ⟨A, cap, rfl, hcap, hc⟩ := hs
  rw [List.length_map] at hcap hc ⊢
  obtain ⟨m, hm⟩ : ∃ m, s.length = m := ⟨_, rfl⟩
  rw [hm] at hcap hc hsl ⊢
  have HX := Lib.hid (And.intro hm (And.intro hc hsb))
  have hmI : (m : Int) ≤ 100 := by omega
  clear hm hc hsb
  go_enter Tryz.func22, Tryz.ntmps22
  go_wp2_with fail
  go_loopw [13, 14] (fun s13 i wr => ∃ (k : Nat) (sv : Value), k ≤ m ∧ sv = s13 ∧ i = .int .i64 k ∧ Buf wr w.heap.size 1 sv (([] : List Int) ++ (s.take k).map (fun x => 1 + x)).length ((([] : List Int) ++ (s.take k).map (fun x => 1 + x)).map (Value.int .i64)) ∧ Below w.heap.size w wr) (fun _ i _ => m - (intOf i).toNat)
  case atStart => exact ⟨0, _, Nat.zero_le _, rfl, rfl, Buf.nil _ _ _, Below.refl _ _⟩
  case round =>
    obtain ⟨k, sv, hk, rfl, rfl, hbuf, hbel⟩ := hrel
    have hkI : (k : Int) ≤ m := by omega
    by_cases hlt : k < m
    · have hltI : (k : Int) < m := by omega
      have hkl : k < s.length := by have := HX.out.1; omega
      obtain ⟨x, hxe⟩ : ∃ x, s[k] = x := ⟨_, rfl⟩
      have hx : s[k]? = some x := by rw [List.getElem?_eq_getElem hkl, hxe]
      obtain ⟨b, o, rfl, hb, hcl⟩ := HX.out.2.1 (by omega)
      have c0 : wr.cell? ⟨b, o + k, none⟩ = some (.int .i64 x) := (hbel.cell (p := ⟨b, o + k, none⟩) hb).trans (hcl k (.int .i64 x) (by rw [List.getElem?_map, hx]; rfl))
      have hxb := HX.out.2.2 x (List.mem_of_getElem? hx)
      have hwx : IntKind.i64.wrap (1 + x) = 1 + x := by simp [IntKind.wrap, IntKind.bits, IntKind.signed]; omega
      have hfl : (([] : List Int) ++ (s.take k).map (fun x => 1 + x)).length ≤ 1048576 := by
        rw [List.length_append, List.length_map, List.length_take]
        simp only [List.length_cons, List.length_nil]
        omega
      have hnx : (s.take (k + 1)).map (fun x => 1 + x) = (s.take k).map (fun x => 1 + x) ++ [1 + x] := by rw [List.take_succ_eq_append_getElem hkl, List.map_append, hxe]; rfl
      have hnl : ([] : List Int) ++ (s.take (k + 1)).map (fun x => 1 + x) = (([] : List Int) ++ (s.take k).map (fun x => 1 + x)) ++ [1 + x] := by rw [hnx, List.append_assoc]
      obtain ⟨LL, hLL⟩ : ∃ LL, ([] : List Int) ++ (s.take k).map (fun x => 1 + x) = LL := ⟨_, rfl⟩
      rw [hLL] at hbuf hfl hnl
      clear hLL hnx
      obtain ⟨g, o2, c2, w4, hrun, hb4, hbel4⟩ := push_one Tryz.underlying37 infoI64 rfl (by decide) hbuf (.int .i64 (1 + x)) rfl hbel.size hfl
      have HR := Lib.hid hrun
      have HB := Lib.hid (And.intro hb4 (And.intro (hbel.trans hbel4) hnl))
      clear hrun hb4 hbel4 hbuf hbel hxe hx hcl hfl hnl
      go_wp2_with (at_builtin; refine wpList_append_run _ rfl (.tmp 26) (.tmp 32) _ _ rfl _ _ rfl rfl _ _ HR.out ?_)
      go_roundw
      case rel =>
        refine ⟨k + 1, _, by omega, rfl, by go_num, ?_, HB.out.2.1⟩
        rw [HB.out.2.2, List.map_append, List.length_append]
        exact HB.out.1
      case measure => simp [intOf]; omega
    · obtain rfl : k = m := by omega
      rw [List.take_of_length_le (by have := HX.out.1; omega)] at hbuf
      have hsz := hbel.size
      have HM := Lib.hid (And.intro hbuf (And.intro hbel hsz))
      obtain ⟨L1, hL1⟩ : ∃ L1, ([] : List Int) ++ s.map (fun x => 1 + x) = L1 := ⟨_, rfl⟩
      have hL1l : L1.length ≤ 101 := by
        rw [← hL1, List.length_append, List.length_map]
        simp only [List.length_cons, List.length_nil]
        have := HX.out.1
        omega
      rw [hL1] at HM
      have HL1 := Lib.hid hL1
      clear hbuf hbel hL1 hsz
      go_wp2_with fail
      go_loopw [13, 15] (fun s13 i wz => ∃ (j : Nat) (sw : Value), j ≤ ss ∧ sw = s13 ∧ i = .int .i64 j ∧ Buf wz w.heap.size 1 sw (L1 ++ tookL own all st j).length ((L1 ++ tookL own all st j).map (Value.int .i64)) ∧ Below w.heap.size w wz) (fun _ i _ => ss - (intOf i).toNat)
      case atStart =>
        refine ⟨0, _, Nat.zero_le _, rfl, rfl, ?_, HM.out.2.1⟩
        rw [show tookL own all st 0 = [] from rfl, List.append_nil]
        exact HM.out.1
      case round =>
        obtain ⟨j, sw, hj, rfl, rfl, hbuf, hbel⟩ := hrel
        have hjI : (j : Int) ≤ ss := by omega
        by_cases hjt : j < ss
        · have hjtI : (j : Int) < ss := by omega
          have htl := tookL_len own all st j
          have hw1 : IntKind.i64.wrap (1 + (st : Int)) = 1 + (st : Int) := by simp [IntKind.wrap, IntKind.bits, IntKind.signed]; omega
          have hw2 : IntKind.i64.wrap (1 + (st : Int) + (j : Int)) = 1 + (st : Int) + (j : Int) := by simp [IntKind.wrap, IntKind.bits, IntKind.signed]; omega
          have hfl : (L1 ++ tookL own all st j).length ≤ 1048576 := by rw [List.length_append]; omega
          by_cases hyes : all = true ∨ (j : Int) = own
          · have hnx : L1 ++ tookL own all st (j + 1) = (L1 ++ tookL own all st j) ++ [1 + (st : Int) + (j : Int)] := by rw [tookL_yes (st := st) (all := all) (own := own) (k := j) (by simpa using hyes), List.append_assoc]
            obtain ⟨LZ, hLZ⟩ : ∃ LZ, L1 ++ tookL own all st j = LZ := ⟨_, rfl⟩
            rw [hLZ] at hnx hbuf hfl
            clear hLZ
            obtain ⟨g, o2, c2, w4, hrun, hb4, hbel4⟩ := push_one Tryz.underlying37 infoI64 rfl (by decide) hbuf (.int .i64 (1 + (st : Int) + (j : Int))) rfl hbel.size hfl
            have HR := Lib.hid hrun
            have HB := Lib.hid (And.intro hb4 (And.intro (hbel.trans hbel4) hnx))
            clear hrun hb4 hbel4 hbuf hbel hfl hnx htl
            cases all with
            | true =>
              clear hyes
              go_wp2_with (at_builtin; refine wpList_append_run _ rfl (.tmp 45) (.tmp 50) _ _ rfl _ _ rfl rfl _ _ HR.out ?_)
              go_roundw
              case rel =>
                refine ⟨j + 1, _, by omega, rfl, by go_num, ?_, HB.out.2.1⟩
                rw [HB.out.2.2, List.map_append, List.length_append]
                exact HB.out.1
              case measure => simp [intOf]; omega
            | false =>
              have he : (j : Int) = own := by simpa using hyes
              subst he
              clear hyes
              go_wp2_with (at_builtin; refine wpList_append_run _ rfl (.tmp 45) (.tmp 50) _ _ rfl _ _ rfl rfl _ _ HR.out ?_)
              go_roundw
              case rel =>
                refine ⟨j + 1, _, by omega, rfl, by go_num, ?_, HB.out.2.1⟩
                rw [HB.out.2.2, List.map_append, List.length_append]
                exact HB.out.1
              case measure => simp [intOf]; omega
          · have hnx := tookL_no (st := st) (all := all) (own := own) (k := j) (by simpa using hyes)
            cases all with
            | true => exact absurd (Or.inl rfl) hyes
            | false =>
              have he : ¬ ((j : Int) = own) := fun h => hyes (Or.inr h)
              have heb : ((j : Int) == own) = false := by simpa using he
              have HB := Lib.hid (And.intro hbuf (And.intro hbel hnx))
              clear hbuf hbel hnx htl hyes hfl
              go_wp2_with fail
              go_roundw
              case rel =>
                refine ⟨j + 1, _, by omega, rfl, by go_num, ?_, HB.out.2.1⟩
                rw [HB.out.2.2]
                exact HB.out.1
              case measure => simp [intOf]; omega
        · obtain rfl : j = ss := by omega
          have HB := Lib.hid (And.intro hbuf hbel)
          clear hbuf hbel
          go_wp2_with fail
          go_ret
          exact ⟨sw, rfl, by rw [← HRES.out, HL1.out]; exact HB.out.1, HB.out.2⟩

set_option maxRecDepth 100000 in
set_option maxHeartbeats 3200000 in
theorem locks_yes (st ss : Nat) (hst : st ≤ 100) (hss : ss ≤ 100) (s : List Int) (v : Value) (own : Int) (all : Bool) (w : World) (hs : Rd1 w w.heap.size v (s.map (Value.int .i64))) (hsl : s.length ≤ 100) (hsb : ∀ x ∈ s, 0 ≤ x ∧ x ≤ 1000) :
    Calls Tryz.prog 22 #[.int .i64 st, .int .i64 ss, .bool true, v, .int .i64 own, .bool all] w fun e w' => ∃ v', e = .returned v' ∧ Buf w' w.heap.size 1 v' (lockL st ss true s own all).length ((lockL st ss true s own all).map (Value.int .i64)) ∧ Below w.heap.size w w' := by
  have HE : Hid (lockL st ss true s own all = ([0] : List Int) ++ s.map (fun x => 1 + x) ++ tookL own all st ss) := Lib.hid rfl
  rw [HE.out]
  obtain ⟨RES, hRES⟩ : ∃ RES, ([0] : List Int) ++ s.map (fun x => 1 + x) ++ tookL own all st ss = RES := ⟨_, rfl⟩
  rw [hRES]
  have HRES := Lib.hid hRES
  clear hRES
  obtain ⟨A, cap, rfl, hcap, hc⟩ := hs
  rw [List.length_map] at hcap hc ⊢
  obtain ⟨m, hm⟩ : ∃ m, s.length = m := ⟨_, rfl⟩
  rw [hm] at hcap hc hsl ⊢
  have HX := Lib.hid (And.intro hm (And.intro hc hsb))
  have hmI : (m : Int) ≤ 100 := by omega
  clear hm hc hsb
  obtain ⟨g0, o0, c0, w0, hrun0, hb0, hbel0⟩ := push_one Tryz.underlying37 infoI64 rfl (by decide) (Buf.nil w w.heap.size 1) (.int .i64 0) rfl (Nat.le_refl _) (by omega)
  have HR0 := Lib.hid hrun0
  have HB0 := Lib.hid (And.intro hb0 hbel0)
  clear hrun0 hb0 hbel0
  go_enter Tryz.func22, Tryz.ntmps22
  go_wp2_with (at_builtin; refine wpList_append_run _ rfl (.tmp 17) (.tmp 18) _ _ rfl _ _ rfl rfl _ _ HR0.out ?_)
  go_loopw [13, 14] (fun s13 i wr => ∃ (k : Nat) (sv : Value), k ≤ m ∧ sv = s13 ∧ i = .int .i64 k ∧ Buf wr w.heap.size 1 sv (([0] : List Int) ++ (s.take k).map (fun x => 1 + x)).length ((([0] : List Int) ++ (s.take k).map (fun x => 1 + x)).map (Value.int .i64)) ∧ Below w.heap.size w wr) (fun _ i _ => m - (intOf i).toNat)
  case atStart => exact ⟨0, _, Nat.zero_le _, rfl, rfl, HB0.out.1, HB0.out.2⟩
  case round =>
    obtain ⟨k, sv, hk, rfl, rfl, hbuf, hbel⟩ := hrel
    have hkI : (k : Int) ≤ m := by omega
    by_cases hlt : k < m
    · have hltI : (k : Int) < m := by omega
      have hkl : k < s.length := by have := HX.out.1; omega
      obtain ⟨x, hxe⟩ : ∃ x, s[k] = x := ⟨_, rfl⟩
      have hx : s[k]? = some x := by rw [List.getElem?_eq_getElem hkl, hxe]
      obtain ⟨b, o, rfl, hb, hcl⟩ := HX.out.2.1 (by omega)
      have c0 : wr.cell? ⟨b, o + k, none⟩ = some (.int .i64 x) := (hbel.cell (p := ⟨b, o + k, none⟩) hb).trans (hcl k (.int .i64 x) (by rw [List.getElem?_map, hx]; rfl))
      have hxb := HX.out.2.2 x (List.mem_of_getElem? hx)
      have hwx : IntKind.i64.wrap (1 + x) = 1 + x := by simp [IntKind.wrap, IntKind.bits, IntKind.signed]; omega
      have hfl : (([0] : List Int) ++ (s.take k).map (fun x => 1 + x)).length ≤ 1048576 := by
        rw [List.length_append, List.length_map, List.length_take]
        simp only [List.length_cons, List.length_nil]
        omega
      have hnx : (s.take (k + 1)).map (fun x => 1 + x) = (s.take k).map (fun x => 1 + x) ++ [1 + x] := by rw [List.take_succ_eq_append_getElem hkl, List.map_append, hxe]; rfl
      have hnl : ([0] : List Int) ++ (s.take (k + 1)).map (fun x => 1 + x) = (([0] : List Int) ++ (s.take k).map (fun x => 1 + x)) ++ [1 + x] := by rw [hnx, List.append_assoc]
      obtain ⟨LL, hLL⟩ : ∃ LL, ([0] : List Int) ++ (s.take k).map (fun x => 1 + x) = LL := ⟨_, rfl⟩
      rw [hLL] at hbuf hfl hnl
      clear hLL hnx
      obtain ⟨g, o2, c2, w4, hrun, hb4, hbel4⟩ := push_one Tryz.underlying37 infoI64 rfl (by decide) hbuf (.int .i64 (1 + x)) rfl hbel.size hfl
      have HR := Lib.hid hrun
      have HB := Lib.hid (And.intro hb4 (And.intro (hbel.trans hbel4) hnl))
      clear hrun hb4 hbel4 hbuf hbel hxe hx hcl hfl hnl
      go_wp2_with (at_builtin; refine wpList_append_run _ rfl (.tmp 26) (.tmp 32) _ _ rfl _ _ rfl rfl _ _ HR.out ?_)
      go_roundw
      case rel =>
        refine ⟨k + 1, _, by omega, rfl, by go_num, ?_, HB.out.2.1⟩
        rw [HB.out.2.2, List.map_append, List.length_append]
        exact HB.out.1
      case measure => simp [intOf]; omega
    · obtain rfl : k = m := by omega
      rw [List.take_of_length_le (by have := HX.out.1; omega)] at hbuf
      have hsz := hbel.size
      have HM := Lib.hid (And.intro hbuf (And.intro hbel hsz))
      obtain ⟨L1, hL1⟩ : ∃ L1, ([0] : List Int) ++ s.map (fun x => 1 + x) = L1 := ⟨_, rfl⟩
      have hL1l : L1.length ≤ 101 := by
        rw [← hL1, List.length_append, List.length_map]
        simp only [List.length_cons, List.length_nil]
        have := HX.out.1
        omega
      rw [hL1] at HM
      have HL1 := Lib.hid hL1
      clear hbuf hbel hL1 hsz
      go_wp2_with fail
      go_loopw [13, 15] (fun s13 i wz => ∃ (j : Nat) (sw : Value), j ≤ ss ∧ sw = s13 ∧ i = .int .i64 j ∧ Buf wz w.heap.size 1 sw (L1 ++ tookL own all st j).length ((L1 ++ tookL own all st j).map (Value.int .i64)) ∧ Below w.heap.size w wz) (fun _ i _ => ss - (intOf i).toNat)
      case atStart =>
        refine ⟨0, _, Nat.zero_le _, rfl, rfl, ?_, HM.out.2.1⟩
        rw [show tookL own all st 0 = [] from rfl, List.append_nil]
        exact HM.out.1
      case round =>
        obtain ⟨j, sw, hj, rfl, rfl, hbuf, hbel⟩ := hrel
        have hjI : (j : Int) ≤ ss := by omega
        by_cases hjt : j < ss
        · have hjtI : (j : Int) < ss := by omega
          have htl := tookL_len own all st j
          have hw1 : IntKind.i64.wrap (1 + (st : Int)) = 1 + (st : Int) := by simp [IntKind.wrap, IntKind.bits, IntKind.signed]; omega
          have hw2 : IntKind.i64.wrap (1 + (st : Int) + (j : Int)) = 1 + (st : Int) + (j : Int) := by simp [IntKind.wrap, IntKind.bits, IntKind.signed]; omega
          have hfl : (L1 ++ tookL own all st j).length ≤ 1048576 := by rw [List.length_append]; omega
          by_cases hyes : all = true ∨ (j : Int) = own
          · have hnx : L1 ++ tookL own all st (j + 1) = (L1 ++ tookL own all st j) ++ [1 + (st : Int) + (j : Int)] := by rw [tookL_yes (st := st) (all := all) (own := own) (k := j) (by simpa using hyes), List.append_assoc]
            obtain ⟨LZ, hLZ⟩ : ∃ LZ, L1 ++ tookL own all st j = LZ := ⟨_, rfl⟩
            rw [hLZ] at hnx hbuf hfl
            clear hLZ
            obtain ⟨g, o2, c2, w4, hrun, hb4, hbel4⟩ := push_one Tryz.underlying37 infoI64 rfl (by decide) hbuf (.int .i64 (1 + (st : Int) + (j : Int))) rfl hbel.size hfl
            have HR := Lib.hid hrun
            have HB := Lib.hid (And.intro hb4 (And.intro (hbel.trans hbel4) hnx))
            clear hrun hb4 hbel4 hbuf hbel hfl hnx htl
            cases all with
            | true =>
              clear hyes
              go_wp2_with (at_builtin; refine wpList_append_run _ rfl (.tmp 45) (.tmp 50) _ _ rfl _ _ rfl rfl _ _ HR.out ?_)
              go_roundw
              case rel =>
                refine ⟨j + 1, _, by omega, rfl, by go_num, ?_, HB.out.2.1⟩
                rw [HB.out.2.2, List.map_append, List.length_append]
                exact HB.out.1
              case measure => simp [intOf]; omega
            | false =>
              have he : (j : Int) = own := by simpa using hyes
              subst he
              clear hyes
              go_wp2_with (at_builtin; refine wpList_append_run _ rfl (.tmp 45) (.tmp 50) _ _ rfl _ _ rfl rfl _ _ HR.out ?_)
              go_roundw
              case rel =>
                refine ⟨j + 1, _, by omega, rfl, by go_num, ?_, HB.out.2.1⟩
                rw [HB.out.2.2, List.map_append, List.length_append]
                exact HB.out.1
              case measure => simp [intOf]; omega
          · have hnx := tookL_no (st := st) (all := all) (own := own) (k := j) (by simpa using hyes)
            cases all with
            | true => exact absurd (Or.inl rfl) hyes
            | false =>
              have he : ¬ ((j : Int) = own) := fun h => hyes (Or.inr h)
              have heb : ((j : Int) == own) = false := by simpa using he
              have HB := Lib.hid (And.intro hbuf (And.intro hbel hnx))
              clear hbuf hbel hnx htl hyes hfl
              go_wp2_with fail
              go_roundw
              case rel =>
                refine ⟨j + 1, _, by omega, rfl, by go_num, ?_, HB.out.2.1⟩
                rw [HB.out.2.2]
                exact HB.out.1
              case measure => simp [intOf]; omega
        · obtain rfl : j = ss := by omega
          have HB := Lib.hid (And.intro hbuf hbel)
          clear hbuf hbel
          go_wp2_with fail
          go_ret
          exact ⟨sw, rfl, by rw [← HRES.out, HL1.out]; exact HB.out.1, HB.out.2⟩

theorem locks_any (st ss : Nat) (hst : st ≤ 100) (hss : ss ≤ 100) (idx : Bool) (s : List Int) (v : Value) (own : Int) (all : Bool) (w : World) (hs : Rd1 w w.heap.size v (s.map (Value.int .i64))) (hsl : s.length ≤ 100) (hsb : ∀ x ∈ s, 0 ≤ x ∧ x ≤ 1000) :
    Calls Tryz.prog 22 #[.int .i64 st, .int .i64 ss, .bool idx, v, .int .i64 own, .bool all] w fun e w' => ∃ v', e = .returned v' ∧ Buf w' w.heap.size 1 v' (lockL st ss idx s own all).length ((lockL st ss idx s own all).map (Value.int .i64)) ∧ Below w.heap.size w w' := by
  cases idx
  · exact locks_no st ss hst hss s v own all w hs hsl hsb
  · exact locks_yes st ss hst hss s v own all w hs hsl hsb
end Go.Proofs.YtamholmjppgfiaaGreat

namespace Go.Proofs.YtamholmjppgfiaaGreat
open Go Go.RowKit Go.Shelf Go.Lib Go.Sort

def LkB (W : World) (B : Nat) (v : Value) (L : List Int) : Prop := Buf W B 1 v L.length (L.map (Value.int .i64))
theorem rd_nil (W : World) (B : Nat) : Rd1 W B (.slice none 0 0) (([] : List Int).map (Value.int .i64)) := ⟨none, 0, rfl, Nat.le_refl _, fun h => absurd h (by simp)⟩
theorem lb_mono {W : World} {B B' : Nat} {v : Value} {L : List Int} (h : Buf W B 1 v L.length (L.map (Value.int .i64))) (hb : B' ≤ B) : LkB W B' v L := h.mono hb
theorem lb_rd {W : World} {B : Nat} {v : Value} {L : List Int} (h : Buf W B 1 v L.length (L.map (Value.int .i64))) : Rd1 W W.heap.size v (L.map (Value.int .i64)) := Rd1.of_buf (n := L.length) h
theorem uids_in {vl : List Int} {l : List Rng} (hb : ∀ x ∈ vl, 0 ≤ x ∧ x < 4294967296) : ∀ u ∈ uidsOf vl l, 0 ≤ u ∧ u < 4294967296 := fun u hu => by
  unfold uidsOf at hu
  obtain ⟨n, hn, rfl⟩ := List.mem_map.1 hu
  obtain ⟨k1, k2⟩ := numsOf_mem hn
  rw [getElem!_pos vl (n - 1) (by omega)]
  exact hb _ (List.getElem_mem _)
theorem uids_le {vl : List Int} {l : List Rng} : (uidsOf vl l).length ≤ vl.length := by
  have h1 := numsOf_len vl.length l
  unfold uidsOf
  rw [List.length_map]
  omega

set_option maxRecDepth 100000 in
set_option maxHeartbeats 1600000 in
theorem rfor_out (st ss : Nat) (id : Int) (hid : ¬ (0 ≤ id ∧ id < ss)) (sel : Bool) (vv : Value) (kind : Int) (tg mb : ByteArray) (items mode : Int) (sil : Bool) (fl : Int) (A D : Option Addr) (n cap nd cd : Nat) (w : World) :
    Calls Tryz.prog 12 #[.int .i64 st, .int .i64 ss, .int .i64 id, .bool sel, vv, .agg #[.string tg, .int .i64 kind, .string mb, .slice A n cap, .int .i64 items, .int .i64 mode, .bool sil, .int .u8 fl, .slice D nd cd]] w fun e w' => ∃ v, e = .returned v ∧ LkB w' w.heap.size v [] ∧ Below w.heap.size w w' := by
  have hb0 : Below w.heap.size w (w.alloc (.cells #[.string tg, .int .i64 kind, .string mb, .slice A n cap, .int .i64 items, .int .i64 mode, .bool sil, .int .u8 fl, .slice D nd cd] 30)) := (Below.refl _ w).alloc (Nat.le_refl _) _
  have HB := Lib.hid hb0
  clear hb0
  by_cases h1 : id < 0
  · clear hid
    go_enter Tryz.func12, Tryz.ntmps12
    go_wp2_with fail
    go_ret
    exact ⟨_, rfl, Buf.nil _ _ _, HB.out⟩
  · have h2 : (ss : Int) ≤ id := by omega
    have h1d : decide (id < 0) = false := decide_eq_false h1
    have h2d : decide ((ss : Int) ≤ id) = true := decide_eq_true h2
    clear hid
    go_enter Tryz.func12, Tryz.ntmps12
    go_wp2_with fail
    go_ret
    exact ⟨_, rfl, Buf.nil _ _ _, HB.out⟩

set_option maxRecDepth 100000 in
set_option maxHeartbeats 1600000 in
theorem rfor_5 (st ss : Nat) (hst : st ≤ 100) (hss : ss ≤ 100) (h0 : 0 < st) (id : Int) (hid : 0 ≤ id ∧ id < ss) (sel : Bool) (vl : List Int) (vv : Value) (l : List RB) (tg mb : ByteArray) (items mode : Int) (sil : Bool) (fl : Int) (A D : Option Addr) (n cap nd cd : Nat) (hm : mb.size ≤ 1048576) (w : World) (hV : U32 w w.heap.size vv vl) (hR : RgL w w.heap.size (.slice A n cap) (l.map RB.rng)) (hvl : vl.length ≤ 60) (hl : l.length ≤ 60) (hb : ∀ x ∈ vl, 0 ≤ x ∧ x < 4294967296) :
    Calls Tryz.prog 12 #[.int .i64 st, .int .i64 ss, .int .i64 id, .bool sel, vv, .agg #[.string tg, .int .i64 5, .string mb, .slice A n cap, .int .i64 items, .int .i64 mode, .bool sil, .int .u8 fl, .slice D nd cd]] w fun e w' => ∃ v, e = .returned v ∧ LkB w' w.heap.size v (lockL st ss true [] id false) ∧ Below w.heap.size w w' := by
  obtain ⟨hid0, hid1⟩ := hid
  have hb0 : Below w.heap.size w (w.alloc (.cells #[.string tg, .int .i64 5, .string mb, .slice A n cap, .int .i64 items, .int .i64 mode, .bool sil, .int .u8 fl, .slice D nd cd] 30)) := (Below.refl _ w).alloc (Nat.le_refl _) _
  have hk0 := Blk.made w 30 #[.string tg, .int .i64 5, .string mb, .slice A n cap, .int .i64 items, .int .i64 mode, .bool sil, .int .u8 fl, .slice D nd cd]
  have HB := Lib.hid (And.intro hb0 hk0)
  have hi1 : ¬ (id < 0) := by omega
  have hi2 : ¬ ((ss : Int) ≤ id) := by omega
  have hi1d : decide (id < 0) = false := decide_eq_false hi1
  have hi2d : decide ((ss : Int) ≤ id) = false := decide_eq_false hi2
  have HL := Lib.hid (fun (idx : Bool) (s : List Int) (v : Value) (all : Bool) W (hs : Rd1 W W.heap.size v (s.map (Value.int .i64))) (hsl : s.length ≤ 100) (hsb : ∀ x ∈ s, 0 ≤ x ∧ x ≤ 1000) => locks_any st ss hst hss idx s v id all W hs hsl hsb)
  have HE := Lib.hid (fun W => every_any st hst W)
  have HI := Lib.hid (fun W => inbox_any mb hm W)
  have HU := Lib.hid (fun W (hbl : Below w.heap.size w W) => ref_uids vl vv (l.map RB.rng) (.slice A n cap) W ((hV.below hbl (Nat.le_refl _)).mono hbl.size) ((hR.below hbl (Nat.le_refl _)).mono hbl.size) (by omega) (by rw [List.length_map]; omega))
  have HS := Lib.hid (fun W v (h : U32 W W.heap.size v (uidsOf vl (l.map RB.rng))) => rstripes_any st h0 hst (uidsOf vl (l.map RB.rng)) v W h (by have := uids_le (vl := vl) (l := l.map RB.rng); omega) (uids_in hb))
  have HK : Hid ((stripeL st (uidsOf vl (l.map RB.rng))).length ≤ 100 ∧ ∀ x ∈ stripeL st (uidsOf vl (l.map RB.rng)), 0 ≤ x ∧ x ≤ 1000) := Lib.hid ⟨by have := stripe_len (st := st) (uidsOf vl (l.map RB.rng)); have := uids_le (vl := vl) (l := l.map RB.rng); omega, fun x hx => by have := stripe_small h0 x hx; omega⟩
  clear hV hR hvl hl hb hb0 hk0 hm hid0 hid1
  go_enter Tryz.func12, Tryz.ntmps12
  go_wp2_with fail
  refine (HL.out true [] (.slice none 0 0) false _ (rd_nil _ _) (by simp) (fun x hx => absurd hx (by simp))).mono ?_
  rintro e w9 ⟨v9, rfl, hbuf9, hbel9⟩
  have HZ := Lib.hid (And.intro (lb_mono hbuf9 (HB.out.1).size) ((HB.out.1).trans (hbel9.mono (HB.out.1).size)))
  clear hbuf9 hbel9
  go_wp2_with fail
  go_ret
  exact ⟨v9, rfl, HZ.out.1, HZ.out.2⟩

set_option maxRecDepth 100000 in
set_option maxHeartbeats 1600000 in
theorem rfor_1 (st ss : Nat) (hst : st ≤ 100) (hss : ss ≤ 100) (h0 : 0 < st) (id : Int) (hid : 0 ≤ id ∧ id < ss) (sel : Bool) (vl : List Int) (vv : Value) (l : List RB) (tg mb : ByteArray) (items mode : Int) (sil : Bool) (fl : Int) (A D : Option Addr) (n cap nd cd : Nat) (hm : mb.size ≤ 1048576) (w : World) (hV : U32 w w.heap.size vv vl) (hR : RgL w w.heap.size (.slice A n cap) (l.map RB.rng)) (hvl : vl.length ≤ 60) (hl : l.length ≤ 60) (hb : ∀ x ∈ vl, 0 ≤ x ∧ x < 4294967296) :
    Calls Tryz.prog 12 #[.int .i64 st, .int .i64 ss, .int .i64 id, .bool sel, vv, .agg #[.string tg, .int .i64 1, .string mb, .slice A n cap, .int .i64 items, .int .i64 mode, .bool sil, .int .u8 fl, .slice D nd cd]] w fun e w' => ∃ v, e = .returned v ∧ LkB w' w.heap.size v (if sel = true then lockL st ss false [] id false else []) ∧ Below w.heap.size w w' := by
  obtain ⟨hid0, hid1⟩ := hid
  have hb0 : Below w.heap.size w (w.alloc (.cells #[.string tg, .int .i64 1, .string mb, .slice A n cap, .int .i64 items, .int .i64 mode, .bool sil, .int .u8 fl, .slice D nd cd] 30)) := (Below.refl _ w).alloc (Nat.le_refl _) _
  have hk0 := Blk.made w 30 #[.string tg, .int .i64 1, .string mb, .slice A n cap, .int .i64 items, .int .i64 mode, .bool sil, .int .u8 fl, .slice D nd cd]
  have HB := Lib.hid (And.intro hb0 hk0)
  have hi1 : ¬ (id < 0) := by omega
  have hi2 : ¬ ((ss : Int) ≤ id) := by omega
  have hi1d : decide (id < 0) = false := decide_eq_false hi1
  have hi2d : decide ((ss : Int) ≤ id) = false := decide_eq_false hi2
  have HL := Lib.hid (fun (idx : Bool) (s : List Int) (v : Value) (all : Bool) W (hs : Rd1 W W.heap.size v (s.map (Value.int .i64))) (hsl : s.length ≤ 100) (hsb : ∀ x ∈ s, 0 ≤ x ∧ x ≤ 1000) => locks_any st ss hst hss idx s v id all W hs hsl hsb)
  have HE := Lib.hid (fun W => every_any st hst W)
  have HI := Lib.hid (fun W => inbox_any mb hm W)
  have HU := Lib.hid (fun W (hbl : Below w.heap.size w W) => ref_uids vl vv (l.map RB.rng) (.slice A n cap) W ((hV.below hbl (Nat.le_refl _)).mono hbl.size) ((hR.below hbl (Nat.le_refl _)).mono hbl.size) (by omega) (by rw [List.length_map]; omega))
  have HS := Lib.hid (fun W v (h : U32 W W.heap.size v (uidsOf vl (l.map RB.rng))) => rstripes_any st h0 hst (uidsOf vl (l.map RB.rng)) v W h (by have := uids_le (vl := vl) (l := l.map RB.rng); omega) (uids_in hb))
  have HK : Hid ((stripeL st (uidsOf vl (l.map RB.rng))).length ≤ 100 ∧ ∀ x ∈ stripeL st (uidsOf vl (l.map RB.rng)), 0 ≤ x ∧ x ≤ 1000) := Lib.hid ⟨by have := stripe_len (st := st) (uidsOf vl (l.map RB.rng)); have := uids_le (vl := vl) (l := l.map RB.rng); omega, fun x hx => by have := stripe_small h0 x hx; omega⟩
  clear hV hR hvl hl hb hb0 hk0 hm hid0 hid1
  cases sel with
  | false =>
    show Calls _ _ _ _ fun e w' => ∃ v, e = .returned v ∧ LkB w' w.heap.size v [] ∧ Below w.heap.size w w'
    go_enter Tryz.func12, Tryz.ntmps12
    go_wp2_with fail
    go_ret
    exact ⟨_, rfl, Buf.nil _ _ _, HB.out.1⟩
  | true =>
    change Calls _ _ _ _ fun e w' => ∃ v, e = .returned v ∧ LkB w' w.heap.size v (lockL st ss false [] id false) ∧ Below w.heap.size w w'
    go_enter Tryz.func12, Tryz.ntmps12
    go_wp2_with fail
    refine (HU.out _ (HB.out.1)).mono ?_
    rintro e w3 ⟨v3, rfl, hbuf3, hbel3⟩
    have hk3 := (HB.out.2).below hbel3 (HB.out.2).lt
    have H3 := Lib.hid (And.intro (U32.of_buf hbuf3) (And.intro hk3 ((HB.out.1).trans (hbel3.mono (HB.out.1).size))))
    have y1 : w3.cell? ⟨w.heap.size, 1, none⟩ = some (.int .i64 1) := hk3.cell 1
    have y4 : w3.cell? ⟨w.heap.size, 4, none⟩ = some (.int .i64 items) := hk3.cell 4
    clear hbuf3 hk3 hbel3
    go_wp2_with fail
    refine (HL.out false [] (.slice none 0 0) false _ (rd_nil _ _) (by simp) (fun x hx => absurd hx (by simp))).mono ?_
    rintro e w9 ⟨v9, rfl, hbuf9, hbel9⟩
    have HZ := Lib.hid (And.intro (lb_mono hbuf9 (H3.out.2.2).size) ((H3.out.2.2).trans (hbel9.mono (H3.out.2.2).size)))
    clear hbuf9 hbel9
    go_wp2_with fail
    go_ret
    exact ⟨v9, rfl, HZ.out.1, HZ.out.2⟩

set_option maxRecDepth 100000 in
set_option maxHeartbeats 1600000 in
theorem rfor_2 (st ss : Nat) (hst : st ≤ 100) (hss : ss ≤ 100) (h0 : 0 < st) (id : Int) (hid : 0 ≤ id ∧ id < ss) (sel : Bool) (vl : List Int) (vv : Value) (l : List RB) (tg mb : ByteArray) (items mode : Int) (sil : Bool) (fl : Int) (A D : Option Addr) (n cap nd cd : Nat) (hm : mb.size ≤ 1048576) (w : World) (hV : U32 w w.heap.size vv vl) (hR : RgL w w.heap.size (.slice A n cap) (l.map RB.rng)) (hvl : vl.length ≤ 60) (hl : l.length ≤ 60) (hb : ∀ x ∈ vl, 0 ≤ x ∧ x < 4294967296) :
    Calls Tryz.prog 12 #[.int .i64 st, .int .i64 ss, .int .i64 id, .bool sel, vv, .agg #[.string tg, .int .i64 2, .string mb, .slice A n cap, .int .i64 items, .int .i64 mode, .bool sil, .int .u8 fl, .slice D nd cd]] w fun e w' => ∃ v, e = .returned v ∧ LkB w' w.heap.size v (if sel = true then lockL st ss false [] id false else []) ∧ Below w.heap.size w w' := by
  obtain ⟨hid0, hid1⟩ := hid
  have hb0 : Below w.heap.size w (w.alloc (.cells #[.string tg, .int .i64 2, .string mb, .slice A n cap, .int .i64 items, .int .i64 mode, .bool sil, .int .u8 fl, .slice D nd cd] 30)) := (Below.refl _ w).alloc (Nat.le_refl _) _
  have hk0 := Blk.made w 30 #[.string tg, .int .i64 2, .string mb, .slice A n cap, .int .i64 items, .int .i64 mode, .bool sil, .int .u8 fl, .slice D nd cd]
  have HB := Lib.hid (And.intro hb0 hk0)
  have hi1 : ¬ (id < 0) := by omega
  have hi2 : ¬ ((ss : Int) ≤ id) := by omega
  have hi1d : decide (id < 0) = false := decide_eq_false hi1
  have hi2d : decide ((ss : Int) ≤ id) = false := decide_eq_false hi2
  have HL := Lib.hid (fun (idx : Bool) (s : List Int) (v : Value) (all : Bool) W (hs : Rd1 W W.heap.size v (s.map (Value.int .i64))) (hsl : s.length ≤ 100) (hsb : ∀ x ∈ s, 0 ≤ x ∧ x ≤ 1000) => locks_any st ss hst hss idx s v id all W hs hsl hsb)
  have HE := Lib.hid (fun W => every_any st hst W)
  have HI := Lib.hid (fun W => inbox_any mb hm W)
  have HU := Lib.hid (fun W (hbl : Below w.heap.size w W) => ref_uids vl vv (l.map RB.rng) (.slice A n cap) W ((hV.below hbl (Nat.le_refl _)).mono hbl.size) ((hR.below hbl (Nat.le_refl _)).mono hbl.size) (by omega) (by rw [List.length_map]; omega))
  have HS := Lib.hid (fun W v (h : U32 W W.heap.size v (uidsOf vl (l.map RB.rng))) => rstripes_any st h0 hst (uidsOf vl (l.map RB.rng)) v W h (by have := uids_le (vl := vl) (l := l.map RB.rng); omega) (uids_in hb))
  have HK : Hid ((stripeL st (uidsOf vl (l.map RB.rng))).length ≤ 100 ∧ ∀ x ∈ stripeL st (uidsOf vl (l.map RB.rng)), 0 ≤ x ∧ x ≤ 1000) := Lib.hid ⟨by have := stripe_len (st := st) (uidsOf vl (l.map RB.rng)); have := uids_le (vl := vl) (l := l.map RB.rng); omega, fun x hx => by have := stripe_small h0 x hx; omega⟩
  clear hV hR hvl hl hb hb0 hk0 hm hid0 hid1
  cases sel with
  | false =>
    show Calls _ _ _ _ fun e w' => ∃ v, e = .returned v ∧ LkB w' w.heap.size v [] ∧ Below w.heap.size w w'
    go_enter Tryz.func12, Tryz.ntmps12
    go_wp2_with fail
    go_ret
    exact ⟨_, rfl, Buf.nil _ _ _, HB.out.1⟩
  | true =>
    change Calls _ _ _ _ fun e w' => ∃ v, e = .returned v ∧ LkB w' w.heap.size v (lockL st ss false [] id false) ∧ Below w.heap.size w w'
    go_enter Tryz.func12, Tryz.ntmps12
    go_wp2_with fail
    refine (HU.out _ (HB.out.1)).mono ?_
    rintro e w3 ⟨v3, rfl, hbuf3, hbel3⟩
    have hk3 := (HB.out.2).below hbel3 (HB.out.2).lt
    have H3 := Lib.hid (And.intro (U32.of_buf hbuf3) (And.intro hk3 ((HB.out.1).trans (hbel3.mono (HB.out.1).size))))
    have y1 : w3.cell? ⟨w.heap.size, 1, none⟩ = some (.int .i64 2) := hk3.cell 1
    have y4 : w3.cell? ⟨w.heap.size, 4, none⟩ = some (.int .i64 items) := hk3.cell 4
    clear hbuf3 hk3 hbel3
    go_wp2_with fail
    refine (HL.out false [] (.slice none 0 0) false _ (rd_nil _ _) (by simp) (fun x hx => absurd hx (by simp))).mono ?_
    rintro e w9 ⟨v9, rfl, hbuf9, hbel9⟩
    have HZ := Lib.hid (And.intro (lb_mono hbuf9 (H3.out.2.2).size) ((H3.out.2.2).trans (hbel9.mono (H3.out.2.2).size)))
    clear hbuf9 hbel9
    go_wp2_with fail
    go_ret
    exact ⟨v9, rfl, HZ.out.1, HZ.out.2⟩

set_option maxRecDepth 100000 in
set_option maxHeartbeats 1600000 in
theorem rfor_3 (st ss : Nat) (hst : st ≤ 100) (hss : ss ≤ 100) (h0 : 0 < st) (id : Int) (hid : 0 ≤ id ∧ id < ss) (sel : Bool) (vl : List Int) (vv : Value) (l : List RB) (tg mb : ByteArray) (items mode : Int) (sil : Bool) (fl : Int) (A D : Option Addr) (n cap nd cd : Nat) (hm : mb.size ≤ 1048576) (w : World) (hV : U32 w w.heap.size vv vl) (hR : RgL w w.heap.size (.slice A n cap) (l.map RB.rng)) (hvl : vl.length ≤ 60) (hl : l.length ≤ 60) (hb : ∀ x ∈ vl, 0 ≤ x ∧ x < 4294967296) :
    Calls Tryz.prog 12 #[.int .i64 st, .int .i64 ss, .int .i64 id, .bool sel, vv, .agg #[.string tg, .int .i64 3, .string mb, .slice A n cap, .int .i64 items, .int .i64 mode, .bool sil, .int .u8 fl, .slice D nd cd]] w fun e w' => ∃ v, e = .returned v ∧ LkB w' w.heap.size v (if sel = true then lockL st ss true (runL 0 st) id true else []) ∧ Below w.heap.size w w' := by
  obtain ⟨hid0, hid1⟩ := hid
  have hb0 : Below w.heap.size w (w.alloc (.cells #[.string tg, .int .i64 3, .string mb, .slice A n cap, .int .i64 items, .int .i64 mode, .bool sil, .int .u8 fl, .slice D nd cd] 30)) := (Below.refl _ w).alloc (Nat.le_refl _) _
  have hk0 := Blk.made w 30 #[.string tg, .int .i64 3, .string mb, .slice A n cap, .int .i64 items, .int .i64 mode, .bool sil, .int .u8 fl, .slice D nd cd]
  have HB := Lib.hid (And.intro hb0 hk0)
  have hi1 : ¬ (id < 0) := by omega
  have hi2 : ¬ ((ss : Int) ≤ id) := by omega
  have hi1d : decide (id < 0) = false := decide_eq_false hi1
  have hi2d : decide ((ss : Int) ≤ id) = false := decide_eq_false hi2
  have HL := Lib.hid (fun (idx : Bool) (s : List Int) (v : Value) (all : Bool) W (hs : Rd1 W W.heap.size v (s.map (Value.int .i64))) (hsl : s.length ≤ 100) (hsb : ∀ x ∈ s, 0 ≤ x ∧ x ≤ 1000) => locks_any st ss hst hss idx s v id all W hs hsl hsb)
  have HE := Lib.hid (fun W => every_any st hst W)
  have HI := Lib.hid (fun W => inbox_any mb hm W)
  have HU := Lib.hid (fun W (hbl : Below w.heap.size w W) => ref_uids vl vv (l.map RB.rng) (.slice A n cap) W ((hV.below hbl (Nat.le_refl _)).mono hbl.size) ((hR.below hbl (Nat.le_refl _)).mono hbl.size) (by omega) (by rw [List.length_map]; omega))
  have HS := Lib.hid (fun W v (h : U32 W W.heap.size v (uidsOf vl (l.map RB.rng))) => rstripes_any st h0 hst (uidsOf vl (l.map RB.rng)) v W h (by have := uids_le (vl := vl) (l := l.map RB.rng); omega) (uids_in hb))
  have HK : Hid ((stripeL st (uidsOf vl (l.map RB.rng))).length ≤ 100 ∧ ∀ x ∈ stripeL st (uidsOf vl (l.map RB.rng)), 0 ≤ x ∧ x ≤ 1000) := Lib.hid ⟨by have := stripe_len (st := st) (uidsOf vl (l.map RB.rng)); have := uids_le (vl := vl) (l := l.map RB.rng); omega, fun x hx => by have := stripe_small h0 x hx; omega⟩
  clear hV hR hvl hl hb hb0 hk0 hm hid0 hid1
  cases sel with
  | false =>
    show Calls _ _ _ _ fun e w' => ∃ v, e = .returned v ∧ LkB w' w.heap.size v [] ∧ Below w.heap.size w w'
    go_enter Tryz.func12, Tryz.ntmps12
    go_wp2_with fail
    go_ret
    exact ⟨_, rfl, Buf.nil _ _ _, HB.out.1⟩
  | true =>
    change Calls _ _ _ _ fun e w' => ∃ v, e = .returned v ∧ LkB w' w.heap.size v (lockL st ss true (runL 0 st) id true) ∧ Below w.heap.size w w'
    go_enter Tryz.func12, Tryz.ntmps12
    go_wp2_with fail
    refine (HU.out _ (HB.out.1)).mono ?_
    rintro e w3 ⟨v3, rfl, hbuf3, hbel3⟩
    have hk3 := (HB.out.2).below hbel3 (HB.out.2).lt
    have H3 := Lib.hid (And.intro (U32.of_buf hbuf3) (And.intro hk3 ((HB.out.1).trans (hbel3.mono (HB.out.1).size))))
    have y1 : w3.cell? ⟨w.heap.size, 1, none⟩ = some (.int .i64 3) := hk3.cell 1
    have y4 : w3.cell? ⟨w.heap.size, 4, none⟩ = some (.int .i64 items) := hk3.cell 4
    clear hbuf3 hk3 hbel3
    go_wp2_with fail
    refine (HE.out _).mono ?_
    rintro e w5 ⟨v5, rfl, hbuf5, hbel5⟩
    have H5 := Lib.hid (And.intro (show Rd1 w5 w5.heap.size v5 ((runL 0 st).map (Value.int .i64)) from Rd1.of_buf hbuf5) ((H3.out.2.2).trans (hbel5.mono (H3.out.2.2).size)))
    clear hbuf5 hbel5
    go_wp2_with fail
    refine (HL.out true (runL 0 st) v5 true _ (H5.out.1) (by rw [runL_len]; omega) (fun x hx => by have := runL_mem.1 hx; omega)).mono ?_
    rintro e w9 ⟨v9, rfl, hbuf9, hbel9⟩
    have HZ := Lib.hid (And.intro (lb_mono hbuf9 (H5.out.2).size) ((H5.out.2).trans (hbel9.mono (H5.out.2).size)))
    clear hbuf9 hbel9
    go_wp2_with fail
    go_ret
    exact ⟨v9, rfl, HZ.out.1, HZ.out.2⟩

set_option maxRecDepth 100000 in
set_option maxHeartbeats 1600000 in
theorem rfor_4 (st ss : Nat) (hst : st ≤ 100) (hss : ss ≤ 100) (h0 : 0 < st) (id : Int) (hid : 0 ≤ id ∧ id < ss) (sel : Bool) (vl : List Int) (vv : Value) (l : List RB) (tg mb : ByteArray) (items mode : Int) (sil : Bool) (fl : Int) (A D : Option Addr) (n cap nd cd : Nat) (hm : mb.size ≤ 1048576) (w : World) (hV : U32 w w.heap.size vv vl) (hR : RgL w w.heap.size (.slice A n cap) (l.map RB.rng)) (hvl : vl.length ≤ 60) (hl : l.length ≤ 60) (hb : ∀ x ∈ vl, 0 ≤ x ∧ x < 4294967296) :
    Calls Tryz.prog 12 #[.int .i64 st, .int .i64 ss, .int .i64 id, .bool sel, vv, .agg #[.string tg, .int .i64 4, .string mb, .slice A n cap, .int .i64 items, .int .i64 mode, .bool sil, .int .u8 fl, .slice D nd cd]] w fun e w' => ∃ v, e = .returned v ∧ LkB w' w.heap.size v (if sel = true then lockL st ss true (runL 0 st) id true else []) ∧ Below w.heap.size w w' := by
  obtain ⟨hid0, hid1⟩ := hid
  have hb0 : Below w.heap.size w (w.alloc (.cells #[.string tg, .int .i64 4, .string mb, .slice A n cap, .int .i64 items, .int .i64 mode, .bool sil, .int .u8 fl, .slice D nd cd] 30)) := (Below.refl _ w).alloc (Nat.le_refl _) _
  have hk0 := Blk.made w 30 #[.string tg, .int .i64 4, .string mb, .slice A n cap, .int .i64 items, .int .i64 mode, .bool sil, .int .u8 fl, .slice D nd cd]
  have HB := Lib.hid (And.intro hb0 hk0)
  have hi1 : ¬ (id < 0) := by omega
  have hi2 : ¬ ((ss : Int) ≤ id) := by omega
  have hi1d : decide (id < 0) = false := decide_eq_false hi1
  have hi2d : decide ((ss : Int) ≤ id) = false := decide_eq_false hi2
  have HL := Lib.hid (fun (idx : Bool) (s : List Int) (v : Value) (all : Bool) W (hs : Rd1 W W.heap.size v (s.map (Value.int .i64))) (hsl : s.length ≤ 100) (hsb : ∀ x ∈ s, 0 ≤ x ∧ x ≤ 1000) => locks_any st ss hst hss idx s v id all W hs hsl hsb)
  have HE := Lib.hid (fun W => every_any st hst W)
  have HI := Lib.hid (fun W => inbox_any mb hm W)
  have HU := Lib.hid (fun W (hbl : Below w.heap.size w W) => ref_uids vl vv (l.map RB.rng) (.slice A n cap) W ((hV.below hbl (Nat.le_refl _)).mono hbl.size) ((hR.below hbl (Nat.le_refl _)).mono hbl.size) (by omega) (by rw [List.length_map]; omega))
  have HS := Lib.hid (fun W v (h : U32 W W.heap.size v (uidsOf vl (l.map RB.rng))) => rstripes_any st h0 hst (uidsOf vl (l.map RB.rng)) v W h (by have := uids_le (vl := vl) (l := l.map RB.rng); omega) (uids_in hb))
  have HK : Hid ((stripeL st (uidsOf vl (l.map RB.rng))).length ≤ 100 ∧ ∀ x ∈ stripeL st (uidsOf vl (l.map RB.rng)), 0 ≤ x ∧ x ≤ 1000) := Lib.hid ⟨by have := stripe_len (st := st) (uidsOf vl (l.map RB.rng)); have := uids_le (vl := vl) (l := l.map RB.rng); omega, fun x hx => by have := stripe_small h0 x hx; omega⟩
  clear hV hR hvl hl hb hb0 hk0 hm hid0 hid1
  cases sel with
  | false =>
    show Calls _ _ _ _ fun e w' => ∃ v, e = .returned v ∧ LkB w' w.heap.size v [] ∧ Below w.heap.size w w'
    go_enter Tryz.func12, Tryz.ntmps12
    go_wp2_with fail
    go_ret
    exact ⟨_, rfl, Buf.nil _ _ _, HB.out.1⟩
  | true =>
    change Calls _ _ _ _ fun e w' => ∃ v, e = .returned v ∧ LkB w' w.heap.size v (lockL st ss true (runL 0 st) id true) ∧ Below w.heap.size w w'
    go_enter Tryz.func12, Tryz.ntmps12
    go_wp2_with fail
    refine (HU.out _ (HB.out.1)).mono ?_
    rintro e w3 ⟨v3, rfl, hbuf3, hbel3⟩
    have hk3 := (HB.out.2).below hbel3 (HB.out.2).lt
    have H3 := Lib.hid (And.intro (U32.of_buf hbuf3) (And.intro hk3 ((HB.out.1).trans (hbel3.mono (HB.out.1).size))))
    have y1 : w3.cell? ⟨w.heap.size, 1, none⟩ = some (.int .i64 4) := hk3.cell 1
    have y4 : w3.cell? ⟨w.heap.size, 4, none⟩ = some (.int .i64 items) := hk3.cell 4
    clear hbuf3 hk3 hbel3
    go_wp2_with fail
    refine (HE.out _).mono ?_
    rintro e w5 ⟨v5, rfl, hbuf5, hbel5⟩
    have H5 := Lib.hid (And.intro (show Rd1 w5 w5.heap.size v5 ((runL 0 st).map (Value.int .i64)) from Rd1.of_buf hbuf5) ((H3.out.2.2).trans (hbel5.mono (H3.out.2.2).size)))
    clear hbuf5 hbel5
    go_wp2_with fail
    refine (HL.out true (runL 0 st) v5 true _ (H5.out.1) (by rw [runL_len]; omega) (fun x hx => by have := runL_mem.1 hx; omega)).mono ?_
    rintro e w9 ⟨v9, rfl, hbuf9, hbel9⟩
    have HZ := Lib.hid (And.intro (lb_mono hbuf9 (H5.out.2).size) ((H5.out.2).trans (hbel9.mono (H5.out.2).size)))
    clear hbuf9 hbel9
    go_wp2_with fail
    go_ret
    exact ⟨v9, rfl, HZ.out.1, HZ.out.2⟩

set_option maxRecDepth 100000 in
set_option maxHeartbeats 1600000 in
theorem rfor_7 (st ss : Nat) (hst : st ≤ 100) (hss : ss ≤ 100) (h0 : 0 < st) (id : Int) (hid : 0 ≤ id ∧ id < ss) (sel : Bool) (vl : List Int) (vv : Value) (l : List RB) (tg mb : ByteArray) (items mode : Int) (sil : Bool) (fl : Int) (A D : Option Addr) (n cap nd cd : Nat) (hm : mb.size ≤ 1048576) (w : World) (hV : U32 w w.heap.size vv vl) (hR : RgL w w.heap.size (.slice A n cap) (l.map RB.rng)) (hvl : vl.length ≤ 60) (hl : l.length ≤ 60) (hb : ∀ x ∈ vl, 0 ≤ x ∧ x < 4294967296) :
    Calls Tryz.prog 12 #[.int .i64 st, .int .i64 ss, .int .i64 id, .bool sel, vv, .agg #[.string tg, .int .i64 7, .string mb, .slice A n cap, .int .i64 items, .int .i64 mode, .bool sil, .int .u8 fl, .slice D nd cd]] w fun e w' => ∃ v, e = .returned v ∧ LkB w' w.heap.size v (if sel = true then (if validB vl.length (l.map RB.rng) = true then lockL st ss false (stripeL st (uidsOf vl (l.map RB.rng))) id (marksB items) else []) else []) ∧ Below w.heap.size w w' := by
  obtain ⟨hid0, hid1⟩ := hid
  have hb0 : Below w.heap.size w (w.alloc (.cells #[.string tg, .int .i64 7, .string mb, .slice A n cap, .int .i64 items, .int .i64 mode, .bool sil, .int .u8 fl, .slice D nd cd] 30)) := (Below.refl _ w).alloc (Nat.le_refl _) _
  have hk0 := Blk.made w 30 #[.string tg, .int .i64 7, .string mb, .slice A n cap, .int .i64 items, .int .i64 mode, .bool sil, .int .u8 fl, .slice D nd cd]
  have HB := Lib.hid (And.intro hb0 hk0)
  have hi1 : ¬ (id < 0) := by omega
  have hi2 : ¬ ((ss : Int) ≤ id) := by omega
  have hi1d : decide (id < 0) = false := decide_eq_false hi1
  have hi2d : decide ((ss : Int) ≤ id) = false := decide_eq_false hi2
  have HL := Lib.hid (fun (idx : Bool) (s : List Int) (v : Value) (all : Bool) W (hs : Rd1 W W.heap.size v (s.map (Value.int .i64))) (hsl : s.length ≤ 100) (hsb : ∀ x ∈ s, 0 ≤ x ∧ x ≤ 1000) => locks_any st ss hst hss idx s v id all W hs hsl hsb)
  have HE := Lib.hid (fun W => every_any st hst W)
  have HI := Lib.hid (fun W => inbox_any mb hm W)
  have HU := Lib.hid (fun W (hbl : Below w.heap.size w W) => ref_uids vl vv (l.map RB.rng) (.slice A n cap) W ((hV.below hbl (Nat.le_refl _)).mono hbl.size) ((hR.below hbl (Nat.le_refl _)).mono hbl.size) (by omega) (by rw [List.length_map]; omega))
  have HS := Lib.hid (fun W v (h : U32 W W.heap.size v (uidsOf vl (l.map RB.rng))) => rstripes_any st h0 hst (uidsOf vl (l.map RB.rng)) v W h (by have := uids_le (vl := vl) (l := l.map RB.rng); omega) (uids_in hb))
  have HK : Hid ((stripeL st (uidsOf vl (l.map RB.rng))).length ≤ 100 ∧ ∀ x ∈ stripeL st (uidsOf vl (l.map RB.rng)), 0 ≤ x ∧ x ≤ 1000) := Lib.hid ⟨by have := stripe_len (st := st) (uidsOf vl (l.map RB.rng)); have := uids_le (vl := vl) (l := l.map RB.rng); omega, fun x hx => by have := stripe_small h0 x hx; omega⟩
  clear hV hR hvl hl hb hb0 hk0 hm hid0 hid1
  cases sel with
  | false =>
    show Calls _ _ _ _ fun e w' => ∃ v, e = .returned v ∧ LkB w' w.heap.size v [] ∧ Below w.heap.size w w'
    go_enter Tryz.func12, Tryz.ntmps12
    go_wp2_with fail
    go_ret
    exact ⟨_, rfl, Buf.nil _ _ _, HB.out.1⟩
  | true =>
    change Calls _ _ _ _ fun e w' => ∃ v, e = .returned v ∧ LkB w' w.heap.size v ((if validB vl.length (l.map RB.rng) = true then lockL st ss false (stripeL st (uidsOf vl (l.map RB.rng))) id (marksB items) else [])) ∧ Below w.heap.size w w'
    obtain ⟨ok, hok⟩ : ∃ ok, validB vl.length (l.map RB.rng) = ok := ⟨_, rfl⟩
    rw [hok] at HU ⊢
    clear hok
    cases ok with
    | false =>
      change Calls _ _ _ _ fun e w' => ∃ v, e = .returned v ∧ LkB w' w.heap.size v [] ∧ Below w.heap.size w w'
      go_enter Tryz.func12, Tryz.ntmps12
      go_wp2_with fail
      refine (HU.out _ (HB.out.1)).mono ?_
      rintro e w3 ⟨v3, rfl, hbuf3, hbel3⟩
      have hk3 := (HB.out.2).below hbel3 (HB.out.2).lt
      have H3 := Lib.hid (And.intro (U32.of_buf hbuf3) (And.intro hk3 ((HB.out.1).trans (hbel3.mono (HB.out.1).size))))
      have y1 : w3.cell? ⟨w.heap.size, 1, none⟩ = some (.int .i64 7) := hk3.cell 1
      have y4 : w3.cell? ⟨w.heap.size, 4, none⟩ = some (.int .i64 items) := hk3.cell 4
      clear hbuf3 hk3 hbel3
      go_wp2_with fail
      go_ret
      exact ⟨_, rfl, Buf.nil _ _ _, H3.out.2.2⟩
    | true =>
      change Calls _ _ _ _ fun e w' => ∃ v, e = .returned v ∧ LkB w' w.heap.size v (lockL st ss false (stripeL st (uidsOf vl (l.map RB.rng))) id (marksB items)) ∧ Below w.heap.size w w'
      go_enter Tryz.func12, Tryz.ntmps12
      go_wp2_with fail
      refine (HU.out _ (HB.out.1)).mono ?_
      rintro e w3 ⟨v3, rfl, hbuf3, hbel3⟩
      have hk3 := (HB.out.2).below hbel3 (HB.out.2).lt
      have H3 := Lib.hid (And.intro (U32.of_buf hbuf3) (And.intro hk3 ((HB.out.1).trans (hbel3.mono (HB.out.1).size))))
      have y1 : w3.cell? ⟨w.heap.size, 1, none⟩ = some (.int .i64 7) := hk3.cell 1
      have y4 : w3.cell? ⟨w.heap.size, 4, none⟩ = some (.int .i64 items) := hk3.cell 4
      clear hbuf3 hk3 hbel3
      go_upto_region 22 with fail
      refine region_anyC (fun W => Blk W w.heap.size 30 #[.string tg, .int .i64 7, .string mb, .slice A n cap, .int .i64 items, .int .i64 mode, .bool sil, .int .u8 fl, .slice D nd cd]) (by kernel_rfl) ?_
      refine anyC_take (i := 0) (v := ?_) rfl (by kernel_rfl) (by kernel_rfl) (by kernel_rfl) (fun _ _ _ h => h) (H3.out.2.1) (Or.inl ⟨by rfl, ?_⟩) ?_
      rotate_left
      · intro W hW
        go_simp
        try with_reducible rfl
      try simp only [List.getElem_toArray, List.getElem_cons_zero, List.getElem_cons_succ, Act.put, List.setIfInBounds_toArray, List.set_cons_zero, List.set_cons_succ]
      refine anyC_take (i := 1) (v := ?_) rfl (by kernel_rfl) (by kernel_rfl) (by kernel_rfl) (fun _ _ _ h => h) (H3.out.2.1) (Or.inl ⟨by rfl, ?_⟩) ?_
      rotate_left
      · intro W hW
        go_simp
        try with_reducible rfl
      try simp only [List.getElem_toArray, List.getElem_cons_zero, List.getElem_cons_succ, Act.put, List.setIfInBounds_toArray, List.set_cons_zero, List.set_cons_succ]
      refine anyC_take (i := 2) (v := ?_) rfl (by kernel_rfl) (by kernel_rfl) (by kernel_rfl) (fun _ _ _ h => h) (H3.out.2.1) (Or.inl ⟨by rfl, ?_⟩) ?_
      rotate_left
      · intro W hW
        go_simp
        try with_reducible rfl
      try simp only [List.getElem_toArray, List.getElem_cons_zero, List.getElem_cons_succ, Act.put, List.setIfInBounds_toArray, List.set_cons_zero, List.set_cons_succ]
      refine anyC_take (i := 3) (v := ?_) rfl (by kernel_rfl) (by kernel_rfl) (by kernel_rfl) (fun _ _ _ h => h) (H3.out.2.1) (Or.inl ⟨by rfl, ?_⟩) ?_
      rotate_left
      · intro W hW
        go_simp
        try with_reducible rfl
      try simp only [List.getElem_toArray, List.getElem_cons_zero, List.getElem_cons_succ, Act.put, List.setIfInBounds_toArray, List.set_cons_zero, List.set_cons_succ]
      refine anyC_take (i := 5) (v := ?_) rfl (by kernel_rfl) (by kernel_rfl) (by kernel_rfl) (fun _ _ _ h => h) (H3.out.2.1) (Or.inl ⟨by rfl, ?_⟩) ?_
      rotate_left
      · intro W hW
        go_simp
        try with_reducible rfl
      try simp only [List.getElem_toArray, List.getElem_cons_zero, List.getElem_cons_succ, Act.put, List.setIfInBounds_toArray, List.set_cons_zero, List.set_cons_succ]
      refine anyC_take (i := 6) (v := ?_) rfl (by kernel_rfl) (by kernel_rfl) (by kernel_rfl) (fun _ _ _ h => h) (H3.out.2.1) (Or.inl ⟨by rfl, ?_⟩) ?_
      rotate_left
      · intro W hW
        go_simp
        try with_reducible rfl
      try simp only [List.getElem_toArray, List.getElem_cons_zero, List.getElem_cons_succ, Act.put, List.setIfInBounds_toArray, List.set_cons_zero, List.set_cons_succ]
      refine anyC_take (i := 7) (v := ?_) rfl (by kernel_rfl) (by kernel_rfl) (by kernel_rfl) (fun _ _ _ h => h) (H3.out.2.1) (Or.inl ⟨by rfl, ?_⟩) ?_
      rotate_left
      · intro W hW
        have x : W.cell? ⟨w.heap.size, 4, none⟩ = some (.int .i64 items) := hW.cell 4
        go_simp
        try with_reducible rfl
      try simp only [List.getElem_toArray, List.getElem_cons_zero, List.getElem_cons_succ, Act.put, List.setIfInBounds_toArray, List.set_cons_zero, List.set_cons_succ]
      refine anyC_take (i := 8) (v := ?_) rfl (by kernel_rfl) (by kernel_rfl) (by kernel_rfl) (fun _ _ _ h => h) (H3.out.2.1) (Or.inl ⟨by rfl, ?_⟩) ?_
      rotate_left
      · intro W hW
        go_simp
        try with_reducible rfl
      try simp only [List.getElem_toArray, List.getElem_cons_zero, List.getElem_cons_succ, Act.put, List.setIfInBounds_toArray, List.set_cons_zero, List.set_cons_succ]
      refine anyC_take (i := 9) (v := ?_) rfl (by kernel_rfl) (by kernel_rfl) (by kernel_rfl) (fun _ _ _ h => h) (H3.out.2.1) (Or.inl ⟨by rfl, ?_⟩) ?_
      rotate_left
      · intro W hW
        go_simp
        try with_reducible rfl
      try simp only [List.getElem_toArray, List.getElem_cons_zero, List.getElem_cons_succ, Act.put, List.setIfInBounds_toArray, List.set_cons_zero, List.set_cons_succ]
      refine anyC_one (i := 4) (by kernel_rfl) (fun K hK => ⟨_, rfl, by kernel_rfl, ?_⟩)
      go_simp
      refine (HS.out w3.drew _ H3.out.1).mono ?_
      rintro e w4 ⟨v4, rfl, hbuf4, hbel4⟩
      have hbd : Below w.heap.size w w3.drew := Below.drew H3.out.2.2
      have hk4 := H3.out.2.1.drew.below (w' := w4) hbel4 H3.out.2.1.lt
      have H4 := Lib.hid (And.intro (lb_rd hbuf4) (And.intro hk4 (hbd.trans (hbel4.mono hbd.size))))
      clear hbuf4 hbel4 hk4 hbd
      refine hK _ _ (H4.out.2.1) ?_
      clear hK K
      try simp only [List.getElem_toArray, List.getElem_cons_zero, List.getElem_cons_succ, Act.put, List.setIfInBounds_toArray, List.set_cons_zero, List.set_cons_succ]
      refine anyC_one (i := 10) (by kernel_rfl) (fun K hK => ⟨_, rfl, by kernel_rfl, ?_⟩)
      go_simp
      refine (HL.out false (stripeL st (uidsOf vl (l.map RB.rng))) v4 (marksB items) _ H4.out.1 HK.out.1 HK.out.2).mono ?_
      rintro e w9 ⟨v9, rfl, hbuf9, hbel9⟩
      have hk9 := H4.out.2.1.below hbel9 H4.out.2.1.lt
      have HZ := Lib.hid (And.intro (lb_mono hbuf9 H4.out.2.2.size) (And.intro hk9 (H4.out.2.2.trans (hbel9.mono H4.out.2.2.size))))
      clear hbuf9 hbel9 hk9
      refine hK _ _ (HZ.out.2.1) ?_
      clear hK K
      try simp only [List.getElem_toArray, List.getElem_cons_zero, List.getElem_cons_succ, Act.put, List.setIfInBounds_toArray, List.set_cons_zero, List.set_cons_succ]
      refine anyC_take (i := 11) (v := ?_) rfl (by kernel_rfl) (by kernel_rfl) (by kernel_rfl) (fun _ _ _ h => h) (HZ.out.2.1) (Or.inl ⟨by rfl, ?_⟩) ?_
      rotate_left
      · intro W hW
        go_simp
        try with_reducible rfl
      try simp only [List.getElem_toArray, List.getElem_cons_zero, List.getElem_cons_succ, Act.put, List.setIfInBounds_toArray, List.set_cons_zero, List.set_cons_succ]
      refine anyC_done (by kernel_rfl) ?_ _
      go_wp2_with fail
      go_ret
      exact ⟨v9, rfl, HZ.out.1, HZ.out.2.2⟩

set_option maxRecDepth 100000 in
set_option maxHeartbeats 1600000 in
theorem rfor_8 (st ss : Nat) (hst : st ≤ 100) (hss : ss ≤ 100) (h0 : 0 < st) (id : Int) (hid : 0 ≤ id ∧ id < ss) (sel : Bool) (vl : List Int) (vv : Value) (l : List RB) (tg mb : ByteArray) (items mode : Int) (sil : Bool) (fl : Int) (A D : Option Addr) (n cap nd cd : Nat) (hm : mb.size ≤ 1048576) (w : World) (hV : U32 w w.heap.size vv vl) (hR : RgL w w.heap.size (.slice A n cap) (l.map RB.rng)) (hvl : vl.length ≤ 60) (hl : l.length ≤ 60) (hb : ∀ x ∈ vl, 0 ≤ x ∧ x < 4294967296) :
    Calls Tryz.prog 12 #[.int .i64 st, .int .i64 ss, .int .i64 id, .bool sel, vv, .agg #[.string tg, .int .i64 8, .string mb, .slice A n cap, .int .i64 items, .int .i64 mode, .bool sil, .int .u8 fl, .slice D nd cd]] w fun e w' => ∃ v, e = .returned v ∧ LkB w' w.heap.size v (if sel = true then (if validB vl.length (l.map RB.rng) = true then lockL st ss false (stripeL st (uidsOf vl (l.map RB.rng))) id true else []) else []) ∧ Below w.heap.size w w' := by
  obtain ⟨hid0, hid1⟩ := hid
  have hb0 : Below w.heap.size w (w.alloc (.cells #[.string tg, .int .i64 8, .string mb, .slice A n cap, .int .i64 items, .int .i64 mode, .bool sil, .int .u8 fl, .slice D nd cd] 30)) := (Below.refl _ w).alloc (Nat.le_refl _) _
  have hk0 := Blk.made w 30 #[.string tg, .int .i64 8, .string mb, .slice A n cap, .int .i64 items, .int .i64 mode, .bool sil, .int .u8 fl, .slice D nd cd]
  have HB := Lib.hid (And.intro hb0 hk0)
  have hi1 : ¬ (id < 0) := by omega
  have hi2 : ¬ ((ss : Int) ≤ id) := by omega
  have hi1d : decide (id < 0) = false := decide_eq_false hi1
  have hi2d : decide ((ss : Int) ≤ id) = false := decide_eq_false hi2
  have HL := Lib.hid (fun (idx : Bool) (s : List Int) (v : Value) (all : Bool) W (hs : Rd1 W W.heap.size v (s.map (Value.int .i64))) (hsl : s.length ≤ 100) (hsb : ∀ x ∈ s, 0 ≤ x ∧ x ≤ 1000) => locks_any st ss hst hss idx s v id all W hs hsl hsb)
  have HE := Lib.hid (fun W => every_any st hst W)
  have HI := Lib.hid (fun W => inbox_any mb hm W)
  have HU := Lib.hid (fun W (hbl : Below w.heap.size w W) => ref_uids vl vv (l.map RB.rng) (.slice A n cap) W ((hV.below hbl (Nat.le_refl _)).mono hbl.size) ((hR.below hbl (Nat.le_refl _)).mono hbl.size) (by omega) (by rw [List.length_map]; omega))
  have HS := Lib.hid (fun W v (h : U32 W W.heap.size v (uidsOf vl (l.map RB.rng))) => rstripes_any st h0 hst (uidsOf vl (l.map RB.rng)) v W h (by have := uids_le (vl := vl) (l := l.map RB.rng); omega) (uids_in hb))
  have HK : Hid ((stripeL st (uidsOf vl (l.map RB.rng))).length ≤ 100 ∧ ∀ x ∈ stripeL st (uidsOf vl (l.map RB.rng)), 0 ≤ x ∧ x ≤ 1000) := Lib.hid ⟨by have := stripe_len (st := st) (uidsOf vl (l.map RB.rng)); have := uids_le (vl := vl) (l := l.map RB.rng); omega, fun x hx => by have := stripe_small h0 x hx; omega⟩
  clear hV hR hvl hl hb hb0 hk0 hm hid0 hid1
  cases sel with
  | false =>
    show Calls _ _ _ _ fun e w' => ∃ v, e = .returned v ∧ LkB w' w.heap.size v [] ∧ Below w.heap.size w w'
    go_enter Tryz.func12, Tryz.ntmps12
    go_wp2_with fail
    go_ret
    exact ⟨_, rfl, Buf.nil _ _ _, HB.out.1⟩
  | true =>
    change Calls _ _ _ _ fun e w' => ∃ v, e = .returned v ∧ LkB w' w.heap.size v ((if validB vl.length (l.map RB.rng) = true then lockL st ss false (stripeL st (uidsOf vl (l.map RB.rng))) id true else [])) ∧ Below w.heap.size w w'
    obtain ⟨ok, hok⟩ : ∃ ok, validB vl.length (l.map RB.rng) = ok := ⟨_, rfl⟩
    rw [hok] at HU ⊢
    clear hok
    cases ok with
    | false =>
      change Calls _ _ _ _ fun e w' => ∃ v, e = .returned v ∧ LkB w' w.heap.size v [] ∧ Below w.heap.size w w'
      go_enter Tryz.func12, Tryz.ntmps12
      go_wp2_with fail
      refine (HU.out _ (HB.out.1)).mono ?_
      rintro e w3 ⟨v3, rfl, hbuf3, hbel3⟩
      have hk3 := (HB.out.2).below hbel3 (HB.out.2).lt
      have H3 := Lib.hid (And.intro (U32.of_buf hbuf3) (And.intro hk3 ((HB.out.1).trans (hbel3.mono (HB.out.1).size))))
      have y1 : w3.cell? ⟨w.heap.size, 1, none⟩ = some (.int .i64 8) := hk3.cell 1
      have y4 : w3.cell? ⟨w.heap.size, 4, none⟩ = some (.int .i64 items) := hk3.cell 4
      clear hbuf3 hk3 hbel3
      go_wp2_with fail
      go_ret
      exact ⟨_, rfl, Buf.nil _ _ _, H3.out.2.2⟩
    | true =>
      change Calls _ _ _ _ fun e w' => ∃ v, e = .returned v ∧ LkB w' w.heap.size v (lockL st ss false (stripeL st (uidsOf vl (l.map RB.rng))) id true) ∧ Below w.heap.size w w'
      go_enter Tryz.func12, Tryz.ntmps12
      go_wp2_with fail
      refine (HU.out _ (HB.out.1)).mono ?_
      rintro e w3 ⟨v3, rfl, hbuf3, hbel3⟩
      have hk3 := (HB.out.2).below hbel3 (HB.out.2).lt
      have H3 := Lib.hid (And.intro (U32.of_buf hbuf3) (And.intro hk3 ((HB.out.1).trans (hbel3.mono (HB.out.1).size))))
      have y1 : w3.cell? ⟨w.heap.size, 1, none⟩ = some (.int .i64 8) := hk3.cell 1
      have y4 : w3.cell? ⟨w.heap.size, 4, none⟩ = some (.int .i64 items) := hk3.cell 4
      clear hbuf3 hk3 hbel3
      go_wp2_with fail
      refine (HS.out _ _ H3.out.1).mono ?_
      rintro e w4 ⟨v4, rfl, hbuf4, hbel4⟩
      have H4 := Lib.hid (And.intro (lb_rd hbuf4) (H3.out.2.2.trans (hbel4.mono H3.out.2.2.size)))
      clear hbuf4 hbel4
      go_wp2_with fail
      refine (HL.out false (stripeL st (uidsOf vl (l.map RB.rng))) v4 true _ (H4.out.1) (HK.out.1) (HK.out.2)).mono ?_
      rintro e w9 ⟨v9, rfl, hbuf9, hbel9⟩
      have HZ := Lib.hid (And.intro (lb_mono hbuf9 (H4.out.2).size) ((H4.out.2).trans (hbel9.mono (H4.out.2).size)))
      clear hbuf9 hbel9
      go_wp2_with fail
      go_ret
      exact ⟨v9, rfl, HZ.out.1, HZ.out.2⟩

set_option maxRecDepth 100000 in
set_option maxHeartbeats 1600000 in
theorem rfor_6 (st ss : Nat) (hst : st ≤ 100) (hss : ss ≤ 100) (h0 : 0 < st) (id : Int) (hid : 0 ≤ id ∧ id < ss) (sel : Bool) (vl : List Int) (vv : Value) (l : List RB) (tg mb : ByteArray) (items mode : Int) (sil : Bool) (fl : Int) (A D : Option Addr) (n cap nd cd : Nat) (hm : mb.size ≤ 1048576) (w : World) (hV : U32 w w.heap.size vv vl) (hR : RgL w w.heap.size (.slice A n cap) (l.map RB.rng)) (hvl : vl.length ≤ 60) (hl : l.length ≤ 60) (hb : ∀ x ∈ vl, 0 ≤ x ∧ x < 4294967296) :
    Calls Tryz.prog 12 #[.int .i64 st, .int .i64 ss, .int .i64 id, .bool sel, vv, .agg #[.string tg, .int .i64 6, .string mb, .slice A n cap, .int .i64 items, .int .i64 mode, .bool sil, .int .u8 fl, .slice D nd cd]] w fun e w' => ∃ v, e = .returned v ∧ LkB w' w.heap.size v (if inboxB mb = true then lockL st ss true (runL 0 st) id true else if sel = true then lockL st ss false [] id false else []) ∧ Below w.heap.size w w' := by
  obtain ⟨hid0, hid1⟩ := hid
  have hb0 : Below w.heap.size w (w.alloc (.cells #[.string tg, .int .i64 6, .string mb, .slice A n cap, .int .i64 items, .int .i64 mode, .bool sil, .int .u8 fl, .slice D nd cd] 30)) := (Below.refl _ w).alloc (Nat.le_refl _) _
  have hk0 := Blk.made w 30 #[.string tg, .int .i64 6, .string mb, .slice A n cap, .int .i64 items, .int .i64 mode, .bool sil, .int .u8 fl, .slice D nd cd]
  have HB := Lib.hid (And.intro hb0 hk0)
  have hi1 : ¬ (id < 0) := by omega
  have hi2 : ¬ ((ss : Int) ≤ id) := by omega
  have hi1d : decide (id < 0) = false := decide_eq_false hi1
  have hi2d : decide ((ss : Int) ≤ id) = false := decide_eq_false hi2
  have HL := Lib.hid (fun (idx : Bool) (s : List Int) (v : Value) (all : Bool) W (hs : Rd1 W W.heap.size v (s.map (Value.int .i64))) (hsl : s.length ≤ 100) (hsb : ∀ x ∈ s, 0 ≤ x ∧ x ≤ 1000) => locks_any st ss hst hss idx s v id all W hs hsl hsb)
  have HE := Lib.hid (fun W => every_any st hst W)
  have HI := Lib.hid (fun W => inbox_any mb hm W)
  have HU := Lib.hid (fun W (hbl : Below w.heap.size w W) => ref_uids vl vv (l.map RB.rng) (.slice A n cap) W ((hV.below hbl (Nat.le_refl _)).mono hbl.size) ((hR.below hbl (Nat.le_refl _)).mono hbl.size) (by omega) (by rw [List.length_map]; omega))
  have HS := Lib.hid (fun W v (h : U32 W W.heap.size v (uidsOf vl (l.map RB.rng))) => rstripes_any st h0 hst (uidsOf vl (l.map RB.rng)) v W h (by have := uids_le (vl := vl) (l := l.map RB.rng); omega) (uids_in hb))
  have HK : Hid ((stripeL st (uidsOf vl (l.map RB.rng))).length ≤ 100 ∧ ∀ x ∈ stripeL st (uidsOf vl (l.map RB.rng)), 0 ≤ x ∧ x ≤ 1000) := Lib.hid ⟨by have := stripe_len (st := st) (uidsOf vl (l.map RB.rng)); have := uids_le (vl := vl) (l := l.map RB.rng); omega, fun x hx => by have := stripe_small h0 x hx; omega⟩
  clear hV hR hvl hl hb hb0 hk0 hm hid0 hid1
  obtain ⟨ib, hib⟩ : ∃ ib, inboxB mb = ib := ⟨_, rfl⟩
  change Hid (∀ W, Calls _ _ _ W fun e w' => e = .returned (.bool (inboxB mb)) ∧ Below W.heap.size W w') at HI
  rw [hib] at HI ⊢
  clear hib
  cases ib with
  | true =>
    change Calls _ _ _ _ fun e w' => ∃ v, e = .returned v ∧ LkB w' w.heap.size v (lockL st ss true (runL 0 st) id true) ∧ Below w.heap.size w w'
    go_enter Tryz.func12, Tryz.ntmps12
    go_wp2_with fail
    refine (HI.out _).mono ?_
    rintro e w1 ⟨rfl, hbel1⟩
    have hk1 := HB.out.2.below hbel1 HB.out.2.lt
    have H1 := Lib.hid (And.intro hk1 (HB.out.1.trans (hbel1.mono HB.out.1.size)))
    have q1 : w1.cell? ⟨w.heap.size, 1, none⟩ = some (.int .i64 6) := hk1.cell 1
    have q3 : w1.cell? ⟨w.heap.size, 3, none⟩ = some (.slice A n cap) := hk1.cell 3
    clear hk1 hbel1
    go_wp2_with fail
    refine (HE.out _).mono ?_
    rintro e w5 ⟨v5, rfl, hbuf5, hbel5⟩
    have H5 := Lib.hid (And.intro (show Rd1 w5 w5.heap.size v5 ((runL 0 st).map (Value.int .i64)) from Rd1.of_buf hbuf5) ((H1.out.2).trans (hbel5.mono (H1.out.2).size)))
    clear hbuf5 hbel5
    go_wp2_with fail
    refine (HL.out true (runL 0 st) v5 true _ (H5.out.1) (by rw [runL_len]; omega) (fun x hx => by have := runL_mem.1 hx; omega)).mono ?_
    rintro e w9 ⟨v9, rfl, hbuf9, hbel9⟩
    have HZ := Lib.hid (And.intro (lb_mono hbuf9 (H5.out.2).size) ((H5.out.2).trans (hbel9.mono (H5.out.2).size)))
    clear hbuf9 hbel9
    go_wp2_with fail
    go_ret
    exact ⟨v9, rfl, HZ.out.1, HZ.out.2⟩
  | false =>
    cases sel with
    | false =>
      change Calls _ _ _ _ fun e w' => ∃ v, e = .returned v ∧ LkB w' w.heap.size v [] ∧ Below w.heap.size w w'
      go_enter Tryz.func12, Tryz.ntmps12
      go_wp2_with fail
      refine (HI.out _).mono ?_
      rintro e w1 ⟨rfl, hbel1⟩
      have hk1 := HB.out.2.below hbel1 HB.out.2.lt
      have H1 := Lib.hid (And.intro hk1 (HB.out.1.trans (hbel1.mono HB.out.1.size)))
      have q1 : w1.cell? ⟨w.heap.size, 1, none⟩ = some (.int .i64 6) := hk1.cell 1
      have q3 : w1.cell? ⟨w.heap.size, 3, none⟩ = some (.slice A n cap) := hk1.cell 3
      clear hk1 hbel1
      go_wp2_with fail
      go_ret
      exact ⟨_, rfl, Buf.nil _ _ _, H1.out.2⟩
    | true =>
      change Calls _ _ _ _ fun e w' => ∃ v, e = .returned v ∧ LkB w' w.heap.size v (lockL st ss false [] id false) ∧ Below w.heap.size w w'
      go_enter Tryz.func12, Tryz.ntmps12
      go_wp2_with fail
      refine (HI.out _).mono ?_
      rintro e w1 ⟨rfl, hbel1⟩
      have hk1 := HB.out.2.below hbel1 HB.out.2.lt
      have H1 := Lib.hid (And.intro hk1 (HB.out.1.trans (hbel1.mono HB.out.1.size)))
      have q1 : w1.cell? ⟨w.heap.size, 1, none⟩ = some (.int .i64 6) := hk1.cell 1
      have q3 : w1.cell? ⟨w.heap.size, 3, none⟩ = some (.slice A n cap) := hk1.cell 3
      clear hk1 hbel1
      go_wp2_with fail
      refine (HU.out _ (H1.out.2)).mono ?_
      rintro e w3 ⟨v3, rfl, hbuf3, hbel3⟩
      have hk3 := (H1.out.1).below hbel3 (H1.out.1).lt
      have H3 := Lib.hid (And.intro (U32.of_buf hbuf3) (And.intro hk3 ((H1.out.2).trans (hbel3.mono (H1.out.2).size))))
      have y1 : w3.cell? ⟨w.heap.size, 1, none⟩ = some (.int .i64 6) := hk3.cell 1
      have y4 : w3.cell? ⟨w.heap.size, 4, none⟩ = some (.int .i64 items) := hk3.cell 4
      clear hbuf3 hk3 hbel3
      go_wp2_with fail
      refine (HL.out false [] (.slice none 0 0) false _ (rd_nil _ _) (by simp) (fun x hx => absurd hx (by simp))).mono ?_
      rintro e w9 ⟨v9, rfl, hbuf9, hbel9⟩
      have HZ := Lib.hid (And.intro (lb_mono hbuf9 (H3.out.2.2).size) ((H3.out.2.2).trans (hbel9.mono (H3.out.2.2).size)))
      clear hbuf9 hbel9
      go_wp2_with fail
      go_ret
      exact ⟨v9, rfl, HZ.out.1, HZ.out.2⟩

set_option maxRecDepth 100000 in
set_option maxHeartbeats 1600000 in
theorem rfor_0 (st ss : Nat) (hst : st ≤ 100) (hss : ss ≤ 100) (h0 : 0 < st) (id : Int) (hid : 0 ≤ id ∧ id < ss) (sel : Bool) (vl : List Int) (vv : Value) (l : List RB) (tg mb : ByteArray) (items mode : Int) (sil : Bool) (fl : Int) (A D : Option Addr) (n cap nd cd : Nat) (hm : mb.size ≤ 1048576) (w : World) (hV : U32 w w.heap.size vv vl) (hR : RgL w w.heap.size (.slice A n cap) (l.map RB.rng)) (hvl : vl.length ≤ 60) (hl : l.length ≤ 60) (hb : ∀ x ∈ vl, 0 ≤ x ∧ x < 4294967296) (kind : Int) (hk : ¬ (kind = 1) ∧ ¬ (kind = 2) ∧ ¬ (kind = 3) ∧ ¬ (kind = 4) ∧ ¬ (kind = 5) ∧ ¬ (kind = 6) ∧ ¬ (kind = 7) ∧ ¬ (kind = 8)) :
    Calls Tryz.prog 12 #[.int .i64 st, .int .i64 ss, .int .i64 id, .bool sel, vv, .agg #[.string tg, .int .i64 kind, .string mb, .slice A n cap, .int .i64 items, .int .i64 mode, .bool sil, .int .u8 fl, .slice D nd cd]] w fun e w' => ∃ v, e = .returned v ∧ LkB w' w.heap.size v ([]) ∧ Below w.heap.size w w' := by
  obtain ⟨hid0, hid1⟩ := hid
  have hb0 : Below w.heap.size w (w.alloc (.cells #[.string tg, .int .i64 kind, .string mb, .slice A n cap, .int .i64 items, .int .i64 mode, .bool sil, .int .u8 fl, .slice D nd cd] 30)) := (Below.refl _ w).alloc (Nat.le_refl _) _
  have hk0 := Blk.made w 30 #[.string tg, .int .i64 kind, .string mb, .slice A n cap, .int .i64 items, .int .i64 mode, .bool sil, .int .u8 fl, .slice D nd cd]
  have HB := Lib.hid (And.intro hb0 hk0)
  have hi1 : ¬ (id < 0) := by omega
  have hi2 : ¬ ((ss : Int) ≤ id) := by omega
  have hi1d : decide (id < 0) = false := decide_eq_false hi1
  have hi2d : decide ((ss : Int) ≤ id) = false := decide_eq_false hi2
  have HL := Lib.hid (fun (idx : Bool) (s : List Int) (v : Value) (all : Bool) W (hs : Rd1 W W.heap.size v (s.map (Value.int .i64))) (hsl : s.length ≤ 100) (hsb : ∀ x ∈ s, 0 ≤ x ∧ x ≤ 1000) => locks_any st ss hst hss idx s v id all W hs hsl hsb)
  have HE := Lib.hid (fun W => every_any st hst W)
  have HI := Lib.hid (fun W => inbox_any mb hm W)
  have HU := Lib.hid (fun W (hbl : Below w.heap.size w W) => ref_uids vl vv (l.map RB.rng) (.slice A n cap) W ((hV.below hbl (Nat.le_refl _)).mono hbl.size) ((hR.below hbl (Nat.le_refl _)).mono hbl.size) (by omega) (by rw [List.length_map]; omega))
  have HS := Lib.hid (fun W v (h : U32 W W.heap.size v (uidsOf vl (l.map RB.rng))) => rstripes_any st h0 hst (uidsOf vl (l.map RB.rng)) v W h (by have := uids_le (vl := vl) (l := l.map RB.rng); omega) (uids_in hb))
  have HK : Hid ((stripeL st (uidsOf vl (l.map RB.rng))).length ≤ 100 ∧ ∀ x ∈ stripeL st (uidsOf vl (l.map RB.rng)), 0 ≤ x ∧ x ≤ 1000) := Lib.hid ⟨by have := stripe_len (st := st) (uidsOf vl (l.map RB.rng)); have := uids_le (vl := vl) (l := l.map RB.rng); omega, fun x hx => by have := stripe_small h0 x hx; omega⟩
  clear hV hR hvl hl hb hb0 hk0 hm hid0 hid1
  have e1 : ¬ (kind = 1) := hk.1
  have e2 : ¬ (kind = 2) := hk.2.1
  have e3 : ¬ (kind = 3) := hk.2.2.1
  have e4 : ¬ (kind = 4) := hk.2.2.2.1
  have e5 : ¬ (kind = 5) := hk.2.2.2.2.1
  have e6 : ¬ (kind = 6) := hk.2.2.2.2.2.1
  have e7 : ¬ (kind = 7) := hk.2.2.2.2.2.2.1
  have e8 : ¬ (kind = 8) := hk.2.2.2.2.2.2.2
  have b1 : (kind == 1) = false := by simpa using e1
  have b2 : (kind == 2) = false := by simpa using e2
  have b3 : (kind == 3) = false := by simpa using e3
  have b4 : (kind == 4) = false := by simpa using e4
  have b5 : (kind == 5) = false := by simpa using e5
  have b6 : (kind == 6) = false := by simpa using e6
  have b7 : (kind == 7) = false := by simpa using e7
  have b8 : (kind == 8) = false := by simpa using e8
  clear hk
  cases sel with
  | false =>
    go_enter Tryz.func12, Tryz.ntmps12
    go_wp2_with fail
    go_ret
    exact ⟨_, rfl, Buf.nil _ _ _, HB.out.1⟩
  | true =>
    go_enter Tryz.func12, Tryz.ntmps12
    go_wp2_with fail
    refine (HU.out _ (HB.out.1)).mono ?_
    rintro e w3 ⟨v3, rfl, hbuf3, hbel3⟩
    have hk3 := (HB.out.2).below hbel3 (HB.out.2).lt
    have H3 := Lib.hid (And.intro (U32.of_buf hbuf3) (And.intro hk3 ((HB.out.1).trans (hbel3.mono (HB.out.1).size))))
    have y1 : w3.cell? ⟨w.heap.size, 1, none⟩ = some (.int .i64 kind) := hk3.cell 1
    have y4 : w3.cell? ⟨w.heap.size, 4, none⟩ = some (.int .i64 items) := hk3.cell 4
    clear hbuf3 hk3 hbel3
    go_wp2_with fail
    go_ret
    exact ⟨_, rfl, Buf.nil _ _ _, H3.out.2.2⟩

theorem rfor_any (st ss : Nat) (hst : st ≤ 100) (hss : ss ≤ 100) (h0 : 0 < st) (id : Int) (sel : Bool) (vl : List Int) (vv : Value) (l : List RB) (tg mb : ByteArray) (kind items mode : Int) (sil : Bool) (fl : Int) (A D : Option Addr) (n cap nd cd : Nat) (hm : mb.size ≤ 1048576) (w : World) (hV : U32 w w.heap.size vv vl) (hR : RgL w w.heap.size (.slice A n cap) (l.map RB.rng)) (hvl : vl.length ≤ 60) (hl : l.length ≤ 60) (hb : ∀ x ∈ vl, 0 ≤ x ∧ x < 4294967296) :
    Calls Tryz.prog 12 #[.int .i64 st, .int .i64 ss, .int .i64 id, .bool sel, vv, .agg #[.string tg, .int .i64 kind, .string mb, .slice A n cap, .int .i64 items, .int .i64 mode, .bool sil, .int .u8 fl, .slice D nd cd]] w fun e w' => ∃ v, e = .returned v ∧ LkB w' w.heap.size v (forL st ss id (if sel then some vl else none) kind (inboxB mb) (l.map RB.rng) (marksB items)) ∧ Below w.heap.size w w' := by
  rw [← refFor_eq]
  unfold refFor
  by_cases hid : 0 ≤ id ∧ id < ss
  · rw [if_neg (by simpa using hid)]
    by_cases h5 : kind = 5
    · subst h5
      rw [if_pos rfl]
      exact rfor_5 st ss hst hss h0 id hid sel vl vv l tg mb items mode sil fl A D n cap nd cd hm w hV hR hvl hl hb
    rw [if_neg h5]
    by_cases h6 : kind = 6
    · subst h6
      have := rfor_6 st ss hst hss h0 id hid sel vl vv l tg mb items mode sil fl A D n cap nd cd hm w hV hR hvl hl hb
      revert this
      cases inboxB mb <;> cases sel <;> simp
    rw [if_neg (fun h => h6 h.1)]
    by_cases h1 : kind = 1
    · subst h1
      have := rfor_1 st ss hst hss h0 id hid sel vl vv l tg mb items mode sil fl A D n cap nd cd hm w hV hR hvl hl hb
      revert this
      cases sel <;> simp
    by_cases h2 : kind = 2
    · subst h2
      have := rfor_2 st ss hst hss h0 id hid sel vl vv l tg mb items mode sil fl A D n cap nd cd hm w hV hR hvl hl hb
      revert this
      cases sel <;> simp
    by_cases h3 : kind = 3
    · subst h3
      have := rfor_3 st ss hst hss h0 id hid sel vl vv l tg mb items mode sil fl A D n cap nd cd hm w hV hR hvl hl hb
      revert this
      cases sel <;> simp
    by_cases h4 : kind = 4
    · subst h4
      have := rfor_4 st ss hst hss h0 id hid sel vl vv l tg mb items mode sil fl A D n cap nd cd hm w hV hR hvl hl hb
      revert this
      cases sel <;> simp
    by_cases h7 : kind = 7
    · subst h7
      have := rfor_7 st ss hst hss h0 id hid sel vl vv l tg mb items mode sil fl A D n cap nd cd hm w hV hR hvl hl hb
      revert this
      cases sel <;> simp
    by_cases h8 : kind = 8
    · subst h8
      have := rfor_8 st ss hst hss h0 id hid sel vl vv l tg mb items mode sil fl A D n cap nd cd hm w hV hR hvl hl hb
      revert this
      cases sel <;> simp
    have := rfor_0 st ss hst hss h0 id hid sel vl vv l tg mb items mode sil fl A D n cap nd cd hm w hV hR hvl hl hb kind ⟨h1, h2, h3, h4, h5, h6, h7, h8⟩
    cases sel <;> simpa [h1, h2, h3, h4, h6, h7, h8] using this
  · rw [if_pos (by simpa using hid)]
    exact rfor_out st ss id hid sel vv kind tg mb items mode sil fl A D n cap nd cd w
end Go.Proofs.YtamholmjppgfiaaGreat
