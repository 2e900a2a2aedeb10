/- The reference's Append and Remove on lists of identifiers; what UIDs copies. View.UIDs: a copy of the identifiers. -/
import Derived.Test.YtponmnabbieafaaGreatDoorVwQ
import Derived.Test.YtponmnabbieafaaGreatDoorRefS
import Derived.Lib.SliceRun
set_option linter.unusedVariables false
set_option linter.unusedSimpArgs false
namespace Go.Proofs.YtponmnabbieafaaGreatDoor
open Go Go.RowKit Go.Shelf Go.Lib Go.Sort

theorem u32_src {W W' : World} {n cap : Nat} {A : Option Addr} {x : List Int} (h : U32 W W.heap.size (.slice A n cap) x) (hb : Below W.heap.size W W') : n = x.length ∧ Src W' 1 A n (x.map (Value.int .u32)) := by
  obtain ⟨A', c', e, h1, h2⟩ := h
  injection e with e1 e2 e3
  subst e1 e2
  refine ⟨rfl, by rw [List.length_map, Nat.mul_one], fun u hu => by obtain ⟨y, _, rfl⟩ := List.mem_map.1 hu; rfl, fun h0 => ?_⟩
  obtain ⟨b, o, rfl, hlt, hc⟩ := h2 h0
  refine ⟨_, rfl, fun j u hj => ?_⟩
  rw [Go.WideShapes.add_plain]
  rw [List.getElem?_map] at hj
  obtain ⟨y, hy, rfl⟩ := Option.map_eq_some_iff.1 hj
  exact (hb.cell (p := ⟨b, o + j, none⟩) hlt).trans (hc j y hy)
set_option maxRecDepth 100000 in
set_option maxHeartbeats 3200000 in
theorem rappend_yes (x : List Int) (A : Option Addr) (n cap : Nat) (u : Nat) (w : World) (h : U32 w w.heap.size (.slice A n cap) x) (hl : x.length ≤ 1000000) (hu0 : u ≠ 0) (hz : ∀ z, 0 < n → x[n - 1]? = some z → z < u) :
    Calls Tryz.prog 20 #[.slice A n cap, .int .u32 u] w fun e w' => ∃ v', e = .returned (.tuple #[v', .bool true]) ∧ B32 w' w.heap.size v' (x ++ [(u : Int)]) ∧ Below w.heap.size w w' := by
  have hb0 : Below w.heap.size w (w.alloc (.cells #[] 35)) := (Below.refl _ w).alloc (Nat.le_refl _) _
  obtain ⟨hn, hsrc⟩ := u32_src h hb0
  obtain ⟨v1, w1, hr1, hbuf1, -, hb1, -⟩ := chain_run (c := cap) (empty_buf (W := w) (base := w.heap.size) (Nat.le_refl _) 35) hsrc (by rw [World.size_alloc]; omega) (by omega)
  rw [Nat.zero_add, List.nil_append] at hbuf1
  have hb01 := hb0.trans hb1
  obtain ⟨g, o2, c2, w2, hr2, hbuf2, hb2⟩ := push_one Tryz.underlying22 infoU32 rfl (by decide) hbuf1 (.int .u32 (u : Nat)) rfl hb01.size (by omega)
  have HR1 := Lib.hid hr1
  have HR2 := Lib.hid hr2
  have HF := Lib.hid (show B32 w2 w.heap.size (.slice (some ⟨g, o2, none⟩) (n + 1) c2) (x ++ [(u : Int)]) ∧ Below w.heap.size w w2 from ⟨by unfold B32; rw [List.length_append, List.map_append, ← hn]; exact hbuf2, hb01.trans hb2⟩)
  have hue : ¬ ((u : Int) = 0) := by omega
  have hub : ((u : Int) == 0) = false := by simpa using hue
  have hnI : (n : Int) ≤ 1000000 := by omega
  by_cases h0 : 0 < n
  · have h0I : (0 : Int) < n := by omega
    have h0d : decide ((0 : Int) < n) = true := decide_eq_true h0I
    obtain ⟨i, hi⟩ : ∃ i, n - 1 = i := ⟨_, rfl⟩
    rw [hi] at hz
    obtain ⟨A', c', e, -, h2⟩ := h
    injection e with e1 e2 e3
    subst e1
    have hil : i < x.length := by omega
    obtain ⟨z, hze⟩ : ∃ z, x[i] = z := ⟨_, rfl⟩
    have hxz : x[i]? = some z := by rw [List.getElem?_eq_getElem hil, hze]
    obtain ⟨b, o, rfl, hlt, hc⟩ := h2 (by omega)
    have c0 : w.cell? ⟨b, o + i, none⟩ = some (.int .u32 z) := hc i z hxz
    have hzu := hz z h0 hxz
    have hzn : ¬ ((u : Int) ≤ z) := by omega
    have hzd : decide ((u : Int) ≤ z) = false := decide_eq_false hzn
    have hw : IntKind.i64.wrap ((n : Int) - 1) = i := by simp [IntKind.wrap, IntKind.bits, IntKind.signed]; omega
    have hi1 : (i : Int) < (n : Int) := by omega
    have hi2 : i < n := by omega
    clear hr1 hr2 hbuf1 hbuf2 hb1 hb2 hb01 hb0 hsrc hn hz h2 hc hxz hze hi e2
    go_enter Tryz.func20, Tryz.ntmps20
    go_wp2_with (first | (at_builtin; refine wpList_append_run _ rfl (.tmp 24) (.tmp 25) _ _ rfl _ _ rfl rfl _ _ HR1.out ?_) | (at_builtin; refine wpList_append_run _ rfl (.tmp 26) (.tmp 28) _ _ rfl _ _ rfl rfl _ _ HR2.out ?_))
    go_ret2
    exact ⟨_, rfl, HF.out⟩
  · obtain rfl : n = 0 := by omega
    clear hr1 hr2 hbuf1 hbuf2 hb1 hb2 hb01 hb0 hsrc hn hz h
    go_enter Tryz.func20, Tryz.ntmps20
    go_wp2_with (first | (at_builtin; refine wpList_append_run _ rfl (.tmp 24) (.tmp 25) _ _ rfl _ _ rfl rfl _ _ HR1.out ?_) | (at_builtin; refine wpList_append_run _ rfl (.tmp 26) (.tmp 28) _ _ rfl _ _ rfl rfl _ _ HR2.out ?_))
    go_ret2
    exact ⟨_, rfl, HF.out⟩
set_option maxRecDepth 100000 in
set_option maxHeartbeats 3200000 in
theorem rappend_no (x : List Int) (A : Option Addr) (n cap : Nat) (u : Nat) (w : World) (h : U32 w w.heap.size (.slice A n cap) x) (hl : x.length ≤ 1000000) (hz : u = 0 ∨ (0 < n ∧ ∀ z, x[n - 1]? = some z → ¬ z < u)) :
    Calls Tryz.prog 20 #[.slice A n cap, .int .u32 u] w fun e w' => e = .returned (.tuple #[.slice A n cap, .bool false]) ∧ w' = w := by
  obtain ⟨A', c', e, -, h2⟩ := h
  injection e with e1 e2 e3
  subst e1
  have hnI : (n : Int) ≤ 1000000 := by omega
  by_cases hu0 : u = 0
  · subst hu0
    clear hz h2
    go_enter Tryz.func20, Tryz.ntmps20
    go_wp2_with fail
    go_ret2
    exact ⟨rfl, rfl⟩
  · obtain ⟨h0, hz⟩ := hz.resolve_left hu0
    have hue : ¬ ((u : Int) = 0) := by omega
    have hub : ((u : Int) == 0) = false := by simpa using hue
    have h0I : (0 : Int) < n := by omega
    have h0d : decide ((0 : Int) < n) = true := decide_eq_true h0I
    obtain ⟨i, hi⟩ : ∃ i, n - 1 = i := ⟨_, rfl⟩
    rw [hi] at hz
    have hil : i < x.length := by omega
    obtain ⟨z, hze⟩ : ∃ z, x[i] = z := ⟨_, rfl⟩
    have hxz : x[i]? = some z := by rw [List.getElem?_eq_getElem hil, hze]
    obtain ⟨b, o, rfl, hlt, hc⟩ := h2 (by omega)
    have c0 : w.cell? ⟨b, o + i, none⟩ = some (.int .u32 z) := hc i z hxz
    have hzu := hz z hxz
    have hzn : (u : Int) ≤ z := by omega
    have hzd : decide ((u : Int) ≤ z) = true := decide_eq_true hzn
    have hw : IntKind.i64.wrap ((n : Int) - 1) = i := by simp [IntKind.wrap, IntKind.bits, IntKind.signed]; omega
    have hi1 : (i : Int) < (n : Int) := by omega
    have hi2 : i < n := by omega
    clear hz h2 hc hxz hze hi e2
    go_enter Tryz.func20, Tryz.ntmps20
    go_wp2_with fail
    go_ret2
    exact ⟨rfl, rfl⟩
theorem rappend_any (x : List Int) (v : Value) (u : Nat) (w : World) (h : U32 w w.heap.size v x) (ha : asc x) (hl : x.length ≤ 1000000) :
    Calls Tryz.prog 20 #[v, .int .u32 u] w fun e w' => ∃ v', e = .returned (.tuple #[v', .bool (appB x u)]) ∧ U32 w' w'.heap.size v' (if appB x u then x ++ [(u : Int)] else x) ∧ Below w.heap.size w w' := by
  obtain ⟨A, cap, rfl, hc1, hc2⟩ := id h
  have hyes : appB x u = true → Calls Tryz.prog 20 #[.slice A x.length cap, .int .u32 u] w fun e w' => ∃ v', e = .returned (.tuple #[v', .bool (appB x u)]) ∧ U32 w' w'.heap.size v' (if appB x u then x ++ [(u : Int)] else x) ∧ Below w.heap.size w w' := fun hy => by
    rw [hy]
    refine (rappend_yes x A x.length cap u w h hl ?_ ?_).mono ?_
    · rintro rfl
      unfold appB at hy
      simp at hy
    · intro z h0 hz
      rw [appB_last ha u (x.length - 1) z (by omega) hz, Bool.and_eq_true, decide_eq_true_eq, decide_eq_true_eq] at hy
      exact hy.2
    · rintro e w' ⟨v', rfl, hb, hbel⟩
      exact ⟨v', rfl, by rw [if_pos rfl]; exact U32.of_buf hb, hbel⟩
  cases hap : appB x u with
  | true =>
    have hh := hyes hap
    rw [hap] at hh
    exact hh
  | false =>
    refine (rappend_no x A x.length cap u w h hl ?_).mono ?_
    · by_cases hu0 : u = 0
      · exact .inl hu0
      · refine .inr ⟨?_, fun z hz hlt => ?_⟩
        · rcases Nat.eq_zero_or_pos x.length with h0 | h0
          · have : x = [] := List.eq_nil_of_length_eq_zero h0
            subst this
            rw [appB_nil] at hap
            have := of_decide_eq_false hap
            omega
          · exact h0
        · have hxl : 0 < x.length := by
            rcases Nat.eq_zero_or_pos x.length with h0 | h0
            · rw [List.eq_nil_of_length_eq_zero h0] at hz; simp at hz
            · exact h0
          rw [appB_last ha u (x.length - 1) z (by omega) hz] at hap
          simp at hap
          omega
    · rintro e w' ⟨rfl, rfl⟩
      exact ⟨_, rfl, by rw [if_neg Bool.false_ne_true]; exact h, Below.refl _ _⟩

theorem vtake_yes {p : Int → Bool} {us : List Int} {k : Nat} (hk : k < us.length) (h : p us[k] = true) : (us.take (k + 1)).filter p = (us.take k).filter p ++ [us[k]] := by
  rw [List.take_succ_eq_append_getElem hk, List.filter_append]
  simp [h]
theorem vtake_no {p : Int → Bool} {us : List Int} {k : Nat} (hk : k < us.length) (h : p us[k] = false) : (us.take (k + 1)).filter p = (us.take k).filter p := by
  rw [List.take_succ_eq_append_getElem hk, List.filter_append]
  simp [h]
set_option maxRecDepth 100000 in
set_option maxHeartbeats 1600000 in
theorem rremove_any (us : List Int) (t : Int) (v : Value) (w : World) (hU : U32 w w.heap.size v us) (hl : us.length ≤ 1000000) :
    Calls Tryz.prog 21 #[v, .int .u32 t] w fun e w' => ∃ v', e = .returned v' ∧ B32 w' w.heap.size v' (us.filter fun u => decide (u ≠ t)) ∧ Below w.heap.size w w' := by
  obtain ⟨A, cap, rfl, hcap, hc⟩ := hU
  obtain ⟨m, hm⟩ : ∃ m, us.length = m := ⟨_, rfl⟩
  rw [hm] at hcap hc hl ⊢
  have HX := Lib.hid (And.intro hm hc)
  have hmI : (m : Int) ≤ 1000000 := by omega
  obtain ⟨F, hF⟩ : ∃ F : Int → Bool, (fun u => decide (u ≠ t)) = F := ⟨_, rfl⟩
  rw [hF]
  have HF := Lib.hid hF
  clear hm hc hF
  go_enter Tryz.func21, Tryz.ntmps21
  go_wp2_with fail
  go_loopw [5, 6] (fun s5 i wr => ∃ (k : Nat) (sv : Value), k ≤ m ∧ sv = s5 ∧ i = .int .i64 k ∧ Buf wr w.heap.size 1 sv ((us.take k).filter F).length (((us.take k).filter F).map (Value.int .u32)) ∧ Below w.heap.size w wr) (fun _ i _ => m - (intOf i).toNat)
  case atStart => exact ⟨0, _, Nat.zero_le _, rfl, rfl, Buf.nil _ _ _, Below.refl _ _⟩
  case round =>
    obtain ⟨k, sv, hk, rfl, rfl, hbuf, hbel⟩ := hrel
    have hkI : (k : Int) ≤ m := by omega
    by_cases hlt : k < m
    · have hltI : (k : Int) < m := by omega
      have hkl : k < us.length := by have := HX.out.1; omega
      obtain ⟨x, hxe⟩ : ∃ x, us[k] = x := ⟨_, rfl⟩
      have hx : us[k]? = some x := by rw [List.getElem?_eq_getElem hkl, hxe]
      obtain ⟨b, o, rfl, hb, hcl⟩ := HX.out.2 (by omega)
      have c0 : wr.cell? ⟨b, o + k, none⟩ = some (.int .u32 x) := (hbel.cell (p := ⟨b, o + k, none⟩) hb).trans (hcl k x hx)
      have hfl : ((us.take k).filter F).length ≤ 1048576 := by
        have := List.length_filter_le F (us.take k)
        rw [List.length_take] at this
        omega
      by_cases hrt : x = t
      · have hno := vtake_no (p := F) hkl (by rw [hxe, ← HF.out]; simpa using hrt)
        subst hrt
        have HB := Lib.hid (And.intro hbuf (And.intro hbel hno))
        clear hbuf hbel hxe hx hcl hno hfl
        go_wp2_with fail
        go_roundw
        case rel =>
          refine ⟨k + 1, _, by omega, rfl, by go_num, ?_, HB.out.2.1⟩
          rw [HB.out.2.2]
          exact HB.out.1
        case measure => simp [intOf]; omega
      · have hyes := vtake_yes (p := F) hkl (by rw [hxe, ← HF.out]; simpa using hrt)
        rw [hxe] at hyes
        have hrb : (x == t) = false := by simpa using hrt
        have hrn : (x != t) = true := by simpa using hrt
        obtain ⟨g, o2, c2, w4, hrun, hb4, hbel4⟩ := push_one Tryz.underlying22 infoU32 rfl (by decide) hbuf (.int .u32 x) rfl hbel.size hfl
        have HR := Lib.hid hrun
        have HB := Lib.hid (And.intro hb4 (And.intro (hbel.trans hbel4) hyes))
        clear hrun hb4 hbel4 hbuf hbel hxe hx hcl hyes hfl
        go_wp2_with (at_builtin; refine wpList_append_run _ rfl (.tmp 19) (.tmp 24) _ _ rfl _ _ rfl rfl _ _ HR.out ?_)
        go_roundw
        case rel =>
          refine ⟨k + 1, _, by omega, rfl, by go_num, ?_, HB.out.2.1⟩
          rw [HB.out.2.2, List.map_append, List.length_append]
          exact HB.out.1
        case measure => simp [intOf]; omega
    · obtain rfl : k = m := by omega
      rw [List.take_of_length_le (by have := HX.out.1; omega)] at hbuf
      have HB := Lib.hid (And.intro hbuf hbel)
      clear hbuf hbel
      go_wp2_with fail
      go_ret
      exact ⟨sv, rfl, HB.out.1, HB.out.2⟩
set_option maxRecDepth 100000 in
set_option maxHeartbeats 1600000 in
theorem rpos_any (vl : List Int) (u : Int) (v : Value) (w : World) (hU : U32 w w.heap.size v vl) (ha : asc vl) (hl : vl.length ≤ 1048576) :
    Calls Tryz.prog 19 #[v, .int .u32 u] w fun e w' => e = .returned (.int .i64 (posU vl u : Nat)) ∧ w' = w := by
  obtain ⟨A, cap, rfl, hcap, hc⟩ := hU
  obtain ⟨n, hn⟩ : ∃ n, vl.length = n := ⟨_, rfl⟩
  rw [hn] at hcap hc hl ⊢
  have HN := Lib.hid (And.intro hn ha)
  have HC := Lib.hid hc
  obtain ⟨r, hr⟩ : ∃ r, posU vl u = r := ⟨_, rfl⟩
  rw [hr]
  have HR := Lib.hid hr
  clear hn hc ha hr
  have hnI : (n : Int) ≤ 1048576 := by omega
  go_enter Tryz.func19, Tryz.ntmps19
  go_wp2_with fail
  go_loopw [5] (fun i wr => ∃ k : Nat, k ≤ n ∧ i = .int .i64 k ∧ (¬ u ∈ vl.take k) ∧ wr = w) (fun i _ => n - (intOf i).toNat)
  case atStart => exact ⟨0, Nat.zero_le _, rfl, by simp, rfl⟩
  case round =>
    obtain ⟨k, hk, rfl, hno, rfl⟩ := hrel
    have hkI : (k : Int) ≤ n := by omega
    by_cases hlt : k < n
    · have hltI : (k : Int) < n := by omega
      have hkl : k < vl.length := by have := HN.out.1; omega
      obtain ⟨x, hxe⟩ : ∃ x, vl[k] = x := ⟨_, rfl⟩
      have hx : vl[k]? = some x := by rw [List.getElem?_eq_getElem hkl, hxe]
      obtain ⟨b, o, rfl, -, hcl⟩ := HC.out (by omega)
      have c0 := hcl k x hx
      have HX := Lib.hid (And.intro hx (And.intro hno hxe))
      clear hxe hx hcl hno
      by_cases hxu : x = u
      · subst hxu
        go_wp2_with fail
        go_ret
        refine ⟨?_, rfl⟩
        have := pos_at HN.out.2 HX.out.1
        rw [HR.out] at this
        rw [this]
        rfl
      · have hxz : (x == u) = false := by simpa using hxu
        go_wp2_with fail
        go_roundw
        case rel =>
          refine ⟨k + 1, by omega, by go_num, ?_, by first | trivial | rfl⟩
          rw [List.take_succ_eq_append_getElem hkl, List.mem_append]
          rintro (h | h)
          · exact HX.out.2.1 h
          · rw [HX.out.2.2, List.mem_singleton] at h
            exact hxu h.symm
        case measure => simp [intOf]; omega
    · obtain rfl : k = n := by omega
      rw [List.take_of_length_le (by have := HN.out.1; omega)] at hno
      have hp := pos_none hno
      rw [HR.out] at hp
      subst hp
      clear hno
      go_wp2_with fail
      go_ret
      exact ⟨rfl, rfl⟩
end Go.Proofs.YtponmnabbieafaaGreatDoor

namespace Go.Proofs.YtponmnabbieafaaGreatDoor
open Go Go.RowKit Go.Shelf Go.Lib Go.Sort

set_option maxRecDepth 100000 in
set_option maxHeartbeats 3200000 in
theorem clone32_any (x : List Int) (v : Value) (w : World) (h : U32 w w.heap.size v x) (hl : x.length ≤ 1000000) :
    Calls Tryz.prog 40 #[v] w fun e w' => ∃ v', e = .returned v' ∧ B32 w' w.heap.size v' x ∧ Below w.heap.size w w' := by
  have en := Lib.run_eql_slice_nil (P := Tryz.prog)
  obtain ⟨A, cap, rfl, hc1, hc2⟩ := id h
  cases A with
  | none =>
    have h0 : x = [] := by
      rcases Nat.eq_zero_or_pos x.length with h0 | h0
      · exact List.eq_nil_of_length_eq_zero h0
      · obtain ⟨b, o, e, _⟩ := hc2 h0
        cases e
    subst h0
    clear hc1 hc2 h
    go_enter Tryz.func40, Tryz.ntmps40
    go_wp2_with fail
    go_ret
    exact ⟨_, rfl, Buf.nil _ _ _, Below.refl _ _⟩
  | some q =>
    have hb0 : Below w.heap.size w (w.alloc (.cells #[] 35)) := (Below.refl _ w).alloc (Nat.le_refl _) _
    obtain ⟨hn, hsrc⟩ := u32_src h hb0
    obtain ⟨v1, w1, hr1, hbuf1, -, hb1, -⟩ := chain_run (c := cap) (empty_buf (W := w) (base := w.heap.size) (Nat.le_refl _) 35) hsrc (by rw [World.size_alloc]; omega) (by omega)
    rw [Nat.zero_add, List.nil_append] at hbuf1
    have HR1 := Lib.hid hr1
    have HF := Lib.hid (show B32 w1 w.heap.size v1 x ∧ Below w.heap.size w w1 from ⟨hbuf1, hb0.trans hb1⟩)
    clear hr1 hbuf1 hb1 hb0 hsrc hn hc1 hc2 h
    generalize x.length = n at *
    go_enter Tryz.func40, Tryz.ntmps40
    go_wp2_with (at_builtin; refine wpList_append_run _ rfl (.tmp 5) (.tmp 6) _ _ rfl _ _ rfl rfl _ _ HR1.out ?_)
    go_ret
    exact ⟨_, rfl, HF.out⟩
set_option maxHeartbeats 1000000 in
theorem uidsv_any (vb : Nat) (l : List Int) (w : World) (h : VwR w w.heap.size (some ⟨vb, 0, none⟩) l) (hl : l.length ≤ 1000000) :
    Calls Tryz.prog 13 #[.pointer (some ⟨vb, 0, none⟩)] w fun e w' => ∃ v', e = .returned v' ∧ B32 w' w.heap.size v' l ∧ Below w.heap.size w w' := by
  rcases h with ⟨e, _⟩ | ⟨vb2, ib, e, h2, h3, v, h4, h5, h6⟩
  · cases e
  · injection e with e
    injection e with e
    subst e
    have HC := Lib.hid (clone32_any l v w h6 hl)
    have HA : Hid (Calls Tryz.prog 30 #[.pointer (some ⟨ib, 0, none⟩)] w fun e w' => ∃ v', e = .returned v' ∧ B32 w' w.heap.size v' l ∧ Below w.heap.size w w') := Lib.hid (by
      obtain ⟨A, cap, rfl, -, -⟩ := h6
      generalize l.length = n at *
      go_enter Tryz.func30, Tryz.ntmps30
      go_wp2_with fail
      refine HC.out.mono ?_
      rintro e w1 ⟨v1, rfl, hb⟩
      have HB := Lib.hid hb
      clear hb
      go_wp2_with fail
      go_ret
      exact ⟨v1, rfl, HB.out⟩)
    clear h6 h4 h5 HC
    go_enter Tryz.func13, Tryz.ntmps13
    go_wp2_with fail
    refine HA.out.mono ?_
    rintro e w1 ⟨v1, rfl, hb⟩
    have HB := Lib.hid hb
    clear hb
    go_wp2_with fail
    go_ret
    exact ⟨v1, rfl, HB.out⟩
end Go.Proofs.YtponmnabbieafaaGreatDoor
