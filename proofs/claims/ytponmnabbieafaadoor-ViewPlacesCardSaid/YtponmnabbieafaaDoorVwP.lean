/- ViewPlaces: the law's own walk. -/
import Derived.Test.YtponmnabbieafaaDoorVwN
set_option linter.unusedVariables false
set_option linter.unusedSimpArgs false
namespace Go.Proofs.YtponmnabbieafaaDoor
open Go Go.RowKit Go.Shelf Go.Lib Go.Sort

set_option maxRecDepth 100000 in
set_option maxHeartbeats 1600000 in
theorem rpos_any (vl : List Int) (u : Int) (v : Value) (w : World) (hU : U32 w w.heap.size v vl) (ha : asc vl) (hl : vl.length ≤ 1048576) :
    Calls Tryd.prog 15 #[v, .int .u32 u] w fun e w' => e = .returned (.int .i64 (posU vl u : Nat)) ∧ w' = w := by
  obtain ⟨A, cap, rfl, hcap, hc⟩ := hU
  obtain ⟨n, hn⟩ : ∃ n, vl.length = n := ⟨_, rfl⟩
  rw [hn] at hcap hc hl ⊢
  have HN := Lib.hid (And.intro hn ha)
  have HC := Lib.hid hc
  obtain ⟨r, hr⟩ : ∃ r, posU vl u = r := ⟨_, rfl⟩
  rw [hr]
  have HR := Lib.hid hr
  clear hn hc ha hr
  have hnI : (n : Int) ≤ 1048576 := by omega
  go_enter Tryd.func15, Tryd.ntmps15
  go_wp2_with fail
  go_loopw [5] (fun i wr => ∃ k : Nat, k ≤ n ∧ i = .int .i64 k ∧ (¬ u ∈ vl.take k) ∧ wr = w) (fun i _ => n - (intOf i).toNat)
  case atStart => exact ⟨0, Nat.zero_le _, rfl, by simp, rfl⟩
  case round =>
    obtain ⟨k, hk, rfl, hno, rfl⟩ := hrel
    have hkI : (k : Int) ≤ n := by omega
    by_cases hlt : k < n
    · have hltI : (k : Int) < n := by omega
      have hkl : k < vl.length := by have := HN.out.1; omega
      obtain ⟨x, hxe⟩ : ∃ x, vl[k] = x := ⟨_, rfl⟩
      have hx : vl[k]? = some x := by rw [List.getElem?_eq_getElem hkl, hxe]
      obtain ⟨b, o, rfl, -, hcl⟩ := HC.out (by omega)
      have c0 := hcl k x hx
      have HX := Lib.hid (And.intro hx (And.intro hno hxe))
      clear hxe hx hcl hno
      by_cases hxu : x = u
      · subst hxu
        go_wp2_with fail
        go_ret
        refine ⟨?_, rfl⟩
        have := pos_at HN.out.2 HX.out.1
        rw [HR.out] at this
        rw [this]
        rfl
      · have hxz : (x == u) = false := by simpa using hxu
        go_wp2_with fail
        go_roundw
        case rel =>
          refine ⟨k + 1, by omega, by go_num, ?_, by first | trivial | rfl⟩
          rw [List.take_succ_eq_append_getElem hkl, List.mem_append]
          rintro (h | h)
          · exact HX.out.2.1 h
          · rw [HX.out.2.2, List.mem_singleton] at h
            exact hxu h.symm
        case measure => simp [intOf]; omega
    · obtain rfl : k = n := by omega
      rw [List.take_of_length_le (by have := HN.out.1; omega)] at hno
      have hp := pos_none hno
      rw [HR.out] at hp
      subst hp
      clear hno
      go_wp2_with fail
      go_ret
      exact ⟨rfl, rfl⟩


set_option maxHeartbeats 1000000 in
theorem iat_no (ib : Nat) (q : Int) (l : List Int) (w : World) (h : IdxR w w.heap.size ib l) (hq : q < 1 ∨ (l.length : Int) < q) :
    Calls Tryd.prog 27 #[.pointer (some ⟨ib, 0, none⟩), .int .i64 q] w fun e w' => e = .returned (.tuple #[.int .u32 0, .bool false]) ∧ ∃ k, w' = w.drewN k := by
  obtain ⟨v, h1, h2, A, cap, rfl, h4, h5⟩ := h
  clear h5
  generalize l.length = n at *
  by_cases h1 : q < 1
  · have t1 : decide (q < 1) = true := decide_eq_true h1
    clear hq
    go_enter Tryd.func27, Tryd.ntmps27
    go_wp2_with fail
    go_ret2
    exact ⟨rfl, 0, rfl⟩
  · have hq2 := hq.resolve_left h1
    have t1 : decide (q < 1) = false := decide_eq_false h1
    have t2 : decide ((n : Int) < q) = true := decide_eq_true hq2
    clear hq
    go_enter Tryd.func27, Tryd.ntmps27
    go_wp2_with fail
    go_ret2
    exact ⟨rfl, 0, rfl⟩
set_option maxHeartbeats 1000000 in
theorem vat_no (vb : Nat) (q : Int) (l : List Int) (w : World) (h : VwR w w.heap.size (some ⟨vb, 0, none⟩) l) (hq : q < 1 ∨ (l.length : Int) < q) :
    Calls Tryd.prog 13 #[.pointer (some ⟨vb, 0, none⟩), .int .i64 q] w fun e w' => e = .returned (.tuple #[.int .u32 0, .bool false]) ∧ ∃ k, w' = w.drewN k := by
  rcases h with ⟨e, _⟩ | ⟨vb2, ib, e, h2, h3, h4⟩
  · cases e
  · injection e with e
    injection e with e
    subst e
    have HL := Lib.hid (iat_no ib q l w h4 hq)
    clear h4 hq
    go_enter Tryd.func13, Tryd.ntmps13
    go_wp2_with fail
    refine HL.out.mono ?_
    rintro e w' ⟨rfl, q, rfl⟩
    go_wp2_with fail
    go_ret2
    exact ⟨rfl, q, rfl⟩
theorem below_dn (w : World) (k : Nat) : Below w.heap.size w (w.drewN k) := ⟨rfl, rfl, rfl, Nat.le_refl _, fun _ _ => rfl⟩

set_option maxRecDepth 100000 in
set_option maxHeartbeats 6400000 in
theorem viewPlaces_walk (us : List Int) (u : Nat) (q : Int) (vu : Value) (w : World) (hU : U32 w w.heap.size vu us) (hu : u < 4294967296) (hq : -9223372036854775808 ≤ q ∧ q ≤ 9223372036854775807) (h0 : ∀ x ∈ us, 0 ≤ x) :
    Calls Tryd.prog 5 #[vu, .int .u32 u, .int .i64 q] w fun e w' => e = .returned (.bool true) ∧ Below w.heap.size w w' := by
  have HA := Lib.hid (fun W => alive_any W)
  obtain ⟨Au, cu, rfl, -, -⟩ := id hU
  obtain ⟨n, hn⟩ : ∃ n, us.length = n := ⟨_, rfl⟩
  by_cases h1 : 60 < n
  · have h1I : (60 : Int) < n := by omega
    have h1d : decide ((60 : Int) < n) = true := decide_eq_true h1I
    rw [hn]
    clear hU hu h0 hn hq
    go_enter Tryd.func5, Tryd.ntmps5
    go_wp2_with fail
    refine (HA.out _).mono ?_
    rintro e w1 ⟨rfl, hb⟩
    have HB := Lib.hid hb
    clear hb
    go_wp2_with fail
    go_ret
    exact ⟨rfl, HB.out⟩
  have h1I : ¬ ((60 : Int) < n) := by omega
  have h1d : decide ((60 : Int) < n) = false := decide_eq_false h1I
  have HN := Lib.hid (vnew_mut us (.slice Au us.length cu) w hU (by omega) h0)
  have HR := Lib.hid (fun W (hb : Below w.heap.size w W) => rnewv_any us (.slice Au us.length cu) W ((hU.below hb (Nat.le_refl _)).mono hb.size) (by omega))
  have hsl : (srtU us).length ≤ 60 := Nat.le_trans (srtU_len us) (by omega)
  have hasc := srtU_asc us
  obtain ⟨vl, hvl⟩ : ∃ vl, srtU us = vl := ⟨_, rfl⟩
  rw [hvl] at HN HR hsl hasc
  rw [hn] at HN HR
  rw [hn]
  have HSq := Lib.hid (fun (vb : Nat) (z : Int) W (h : VwR W W.heap.size (some ⟨vb, 0, none⟩) vl) => vseq_any (some ⟨vb, 0, none⟩) z vl W h hasc (by omega))
  have HPo := Lib.hid (fun (v : Value) W (h : U32 W W.heap.size v vl) => rpos_any vl u v W h hasc (by omega))
  have HNo := Lib.hid (fun (vb : Nat) W (h : VwR W W.heap.size (some ⟨vb, 0, none⟩) vl) (hq : q < 1 ∨ (vl.length : Int) < q) => vat_no vb q vl W h hq)
  have HYe := Lib.hid (fun (vb i : Nat) (x : Int) W (h : VwR W W.heap.size (some ⟨vb, 0, none⟩) vl) (hx : vl[i]? = some x) => vat_any (some ⟨vb, 0, none⟩) i vl x W h hx (by omega))
  have HPa := Lib.hid (fun (i : Nat) (x : Int) (hx : vl[i]? = some x) => pos_at hasc hx)
  obtain ⟨x, hx⟩ : ∃ x, vl.length = x := ⟨_, rfl⟩
  have hxI : (x : Int) ≤ 60 := by omega
  have HX := Lib.hid hx
  rw [hx] at HNo
  clear hU h0 hn hvl hasc hsl hu hx
  go_enter Tryd.func5, Tryd.ntmps5
  go_wp2_with fail
  refine HN.out.mono ?_
  rintro e w1 ⟨vb, ib, sv, rfl, hv1, hb1⟩
  have H1 := Lib.hid (And.intro hv1 hb1)
  clear hv1 hb1
  go_wp2_with fail
  refine (HR.out _ H1.out.2).mono ?_
  rintro e w2 ⟨vn, rfl, hbn, hb2⟩
  obtain ⟨An, cn, rfl, -, hcn⟩ := id (U32.of_buf hbn)
  rw [HX.out] at hcn ⊢
  have hbn2 : U32 w2 w2.heap.size (.slice An x cn) vl := by have h := U32.of_buf hbn; rw [HX.out] at h; exact h
  have H2 := Lib.hid (And.intro (H1.out.1.below hb2 (Nat.le_refl _)) (And.intro (H1.out.2.trans (hb2.mono H1.out.2.size)) (And.intro hbn2 hcn)))
  clear hbn hb2 hbn2 hcn
  by_cases hin : 1 ≤ q ∧ q ≤ x
  · obtain ⟨i, rfl⟩ : ∃ i : Nat, q = (i : Int) + 1 := ⟨(q - 1).toNat, by omega⟩
    have hil : i < x := by omega
    have hiv : i < vl.length := by have := HX.out; omega
    obtain ⟨z, hze⟩ : ∃ z, vl[i] = z := ⟨_, rfl⟩
    have hz : vl[i]? = some z := by rw [List.getElem?_eq_getElem hiv, hze]
    have HPz := Lib.hid (HPa.out i z hz)
    have HY := Lib.hid (HYe.out vb i z w2 H2.out.1.vwr hz)
    obtain ⟨bn, on, rfl, hbl, hcl⟩ := H2.out.2.2.2 (by omega)
    have HC := Lib.hid (And.intro hbl (hcl i z hz))
    have t1 : (1 : Int) ≤ (i : Int) + 1 := by omega
    have t1d : decide ((1 : Int) ≤ (i : Int) + 1) = true := decide_eq_true t1
    have t2 : (i : Int) + 1 ≤ x := by omega
    have t2d : decide ((i : Int) + 1 ≤ (x : Int)) = true := decide_eq_true t2
    have hw : IntKind.i64.wrap ((i : Int) + 1 - 1) = i := by simp [IntKind.wrap, IntKind.bits, IntKind.signed]; omega
    clear hbl hcl hz hze hin
    go_wp2_with fail
    refine HY.out.mono ?_
    rintro e w3 ⟨rfl, k3, rfl⟩
    have H3 := Lib.hid (And.intro (H2.out.1.below (below_dn w2 k3) (Nat.le_refl _)) (And.intro (H2.out.2.1.trans ((below_dn w2 k3).mono H2.out.2.1.size)) (And.intro (H2.out.2.2.1.below (below_dn w2 k3) (Nat.le_refl _)) HC.out.2)))
    go_wp2_with fail
    refine (HA.out _).mono ?_
    rintro e w4 ⟨rfl, hb4⟩
    have c4 : w4.cell? ⟨bn, on + i, none⟩ = some (.int .u32 z) := (hb4.cell (p := ⟨bn, on + i, none⟩) (by exact HC.out.1)).trans HC.out.2
    have hbn4 : bn < w4.heap.size := Nat.lt_of_lt_of_le HC.out.1 hb4.size
    have H4 := Lib.hid (And.intro (H3.out.1.below hb4 (Nat.le_refl _)) (And.intro (H3.out.2.1.trans (hb4.mono H3.out.2.1.size)) (And.intro ((H3.out.2.2.1.below hb4 (Nat.le_refl _)).mono hb4.size) (And.intro c4 hbn4))))
    clear hb4 c4 hbn4
    go_wp2_with fail
    refine (HSq.out vb (u : Nat) _ H4.out.1.vwr).mono ?_
    rintro e w5 ⟨rfl, hb5⟩
    have c5 : w5.cell? ⟨bn, on + i, none⟩ = some (.int .u32 z) := (hb5.cell (p := ⟨bn, on + i, none⟩) H4.out.2.2.2.2).trans H4.out.2.2.2.1
    have H5 := Lib.hid (And.intro (H4.out.1.below hb5 (Nat.le_refl _)) (And.intro (H4.out.2.1.trans (hb5.mono H4.out.2.1.size)) ((H4.out.2.2.1.below hb5 (Nat.le_refl _)).mono hb5.size)))
    clear hb5
    go_wp2_with fail
    refine (HPo.out _ _ H5.out.2.2).mono ?_
    rintro e w6 ⟨rfl, rfl⟩
    go_wp2_with fail
    refine (HSq.out vb z _ H5.out.1.vwr).mono ?_
    rintro e w7 ⟨rfl, hb7⟩
    rw [HPz.out]
    have H7 := Lib.hid (H5.out.2.1.trans (hb7.mono H5.out.2.1.size))
    clear hb7
    go_wp2_with fail
    go_ret
    exact ⟨by first | rfl | (simp; done), H7.out⟩
  · have hout : q < 1 ∨ (x : Int) < q := by omega
    have HY := Lib.hid (HNo.out vb w2 H2.out.1.vwr hout)
    by_cases t1 : (1 : Int) ≤ q
    · have t1d : decide ((1 : Int) ≤ q) = true := decide_eq_true t1
      have t2 : ¬ (q ≤ (x : Int)) := by omega
      have t2d : decide (q ≤ (x : Int)) = false := decide_eq_false t2
      clear hin hout
      go_wp2_with fail
      refine HY.out.mono ?_
      rintro e w3 ⟨rfl, k3, rfl⟩
      have H3 := Lib.hid (And.intro (H2.out.1.below (below_dn w2 k3) (Nat.le_refl _)) (And.intro (H2.out.2.1.trans ((below_dn w2 k3).mono H2.out.2.1.size)) (H2.out.2.2.1.below (below_dn w2 k3) (Nat.le_refl _))))
      go_wp2_with fail
      refine (HA.out _).mono ?_
      rintro e w4 ⟨rfl, hb4⟩
      have H4 := Lib.hid (And.intro (H3.out.1.below hb4 (Nat.le_refl _)) (And.intro (H3.out.2.1.trans (hb4.mono H3.out.2.1.size)) ((H3.out.2.2.below hb4 (Nat.le_refl _)).mono hb4.size)))
      clear hb4
      go_wp2_with fail
      refine (HSq.out vb (u : Nat) _ H4.out.1.vwr).mono ?_
      rintro e w5 ⟨rfl, hb5⟩
      have H5 := Lib.hid (And.intro (H4.out.2.1.trans (hb5.mono H4.out.2.1.size)) ((H4.out.2.2.below hb5 (Nat.le_refl _)).mono hb5.size))
      clear hb5
      go_wp2_with fail
      refine (HPo.out _ _ H5.out.2).mono ?_
      rintro e w6 ⟨rfl, rfl⟩
      go_wp2_with fail
      go_ret
      exact ⟨by first | rfl | (simp; done), H5.out.1⟩
    · have t1d : decide ((1 : Int) ≤ q) = false := decide_eq_false t1
      clear hin hout
      go_wp2_with fail
      refine HY.out.mono ?_
      rintro e w3 ⟨rfl, k3, rfl⟩
      have H3 := Lib.hid (And.intro (H2.out.1.below (below_dn w2 k3) (Nat.le_refl _)) (And.intro (H2.out.2.1.trans ((below_dn w2 k3).mono H2.out.2.1.size)) (H2.out.2.2.1.below (below_dn w2 k3) (Nat.le_refl _))))
      go_wp2_with fail
      refine (HA.out _).mono ?_
      rintro e w4 ⟨rfl, hb4⟩
      have H4 := Lib.hid (And.intro (H3.out.1.below hb4 (Nat.le_refl _)) (And.intro (H3.out.2.1.trans (hb4.mono H3.out.2.1.size)) ((H3.out.2.2.below hb4 (Nat.le_refl _)).mono hb4.size)))
      clear hb4
      go_wp2_with fail
      refine (HSq.out vb (u : Nat) _ H4.out.1.vwr).mono ?_
      rintro e w5 ⟨rfl, hb5⟩
      have H5 := Lib.hid (And.intro (H4.out.2.1.trans (hb5.mono H4.out.2.1.size)) ((H4.out.2.2.below hb5 (Nat.le_refl _)).mono hb5.size))
      clear hb5
      go_wp2_with fail
      refine (HPo.out _ _ H5.out.2).mono ?_
      rintro e w6 ⟨rfl, rfl⟩
      go_wp2_with fail
      go_ret
      exact ⟨by first | rfl | (simp; done), H5.out.1⟩
end Go.Proofs.YtponmnabbieafaaDoor
