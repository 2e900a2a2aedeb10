/- ViewPlays: the law's own walk. -/
import Derived.Test.YtponmnabbieafaaGreatDoorVwPt
import Derived.Test.YtponmnabbieafaaGreatDoorArgsW
set_option linter.unusedVariables false
set_option linter.unusedSimpArgs false
namespace Go.Proofs.YtponmnabbieafaaGreatDoor
open Go Go.RowKit Go.Shelf Go.Lib Go.Sort

set_option maxRecDepth 100000 in
set_option maxHeartbeats 12800000 in
theorem viewPlays_walk (us : List Int) (pq : Option Addr) (L : List (List Ev)) (cq : Nat) (vu : Value) (w : World) (hU : U32 w w.heap.size vu us) (hL : EvsIn w pq L) (h0 : ∀ x ∈ us, 0 ≤ x) :
    Calls Tryz.prog 3 #[vu, .slice pq L.length cq] w fun e w' => e = .returned (.bool true) ∧ Below w.heap.size w w' := by
  have HA := Lib.hid (fun W => alive_any W)
  obtain ⟨Au, cu, rfl, -, -⟩ := id hU
  obtain ⟨n, hn⟩ : ∃ n, us.length = n := ⟨_, rfl⟩
  obtain ⟨q, hq⟩ : ∃ q, L.length = q := ⟨_, rfl⟩
  by_cases bn : 60 < n
  · have hI : (60 : Int) < n := by omega
    have hd : decide ((60 : Int) < n) = true := decide_eq_true hI
    rw [hn, hq]
    clear hU hL h0 hn hq
    go_enter Tryz.func3, Tryz.ntmps3
    go_wp2_with fail
    refine (HA.out _).mono ?_
    rintro e w1 ⟨rfl, hb⟩
    have HB := Lib.hid hb
    clear hb
    go_wp2_with fail
    go_ret
    exact ⟨rfl, HB.out⟩
  have bnI : ¬ ((60 : Int) < n) := by omega
  have bnd : decide ((60 : Int) < n) = false := decide_eq_false bnI
  by_cases bq : 20 < q
  · have hI : (20 : Int) < q := by omega
    have hd : decide ((20 : Int) < q) = true := decide_eq_true hI
    rw [hn, hq]
    clear hU hL h0 hn hq
    go_enter Tryz.func3, Tryz.ntmps3
    go_wp2_with fail
    refine (HA.out _).mono ?_
    rintro e w1 ⟨rfl, hb⟩
    have HB := Lib.hid hb
    clear hb
    go_wp2_with fail
    go_ret
    exact ⟨rfl, HB.out⟩
  have bqI : ¬ ((20 : Int) < q) := by omega
  have bqd : decide ((20 : Int) < q) = false := decide_eq_false bqI
  have HN := Lib.hid (vnew_mut us (.slice Au us.length cu) w hU (by omega) h0)
  have HR := Lib.hid (fun W (hb : Below w.heap.size w W) => rnew12_any us (.slice Au us.length cu) W ((hU.below hb (Nat.le_refl _)).mono hb.size) (by omega))
  have hsl : (srtU us).length ≤ 60 := Nat.le_trans (srtU_len us) (by omega)
  have hasc := srtU_asc us
  obtain ⟨vl, hvl⟩ : ∃ vl, srtU us = vl := ⟨_, rfl⟩
  rw [hvl] at HN HR hsl hasc
  have HX := Lib.hid (And.intro hL (And.intro hsl (And.intro hasc hq)))
  rw [hn] at HN HR
  rw [hn, hq]
  clear hU hL h0 hn hvl hsl hasc hq
  go_enter Tryz.func3, Tryz.ntmps3
  go_wp2_with fail
  refine HN.out.mono ?_
  rintro e w1 ⟨vb, ib, s1, rfl, hv1, hb1⟩
  have H1 := Lib.hid (And.intro hv1 hb1)
  clear hv1 hb1
  go_wp2_with fail
  refine (HR.out _ H1.out.2).mono ?_
  rintro e w2 ⟨vn, rfl, hbn, hb2⟩
  have H2 := Lib.hid (show VwM w2 w.heap.size vb ib s1 vl false ∧ B32 w2 w1.heap.size vn vl ∧ Below w.heap.size w w2 from ⟨H1.out.1.below hb2 (Nat.le_refl _), hbn, H1.out.2.trans (hb2.mono H1.out.2.size)⟩)
  clear hbn hb2
  go_wp2_with fail
  go_loopw [6, 28] (fun s6 i wr => ∃ (k : Nat) (l : List Int) (v6 sv : Value), k ≤ q ∧ v6 = s6 ∧ i = .int .i64 k ∧ asc l ∧ l.length ≤ 60 + 30 * k ∧ U32 wr wr.heap.size v6 l ∧ VwM wr w.heap.size vb ib sv l false ∧ (∀ j, v6.ownBlock = some j → j < wr.heap.size ∧ j ≠ vb ∧ j ≠ ib ∧ sv.ownBlock ≠ some j) ∧ Below w.heap.size w wr) (fun _ i _ => q - (intOf i).toNat)
  case atStart =>
    refine ⟨0, vl, vn, s1, Nat.zero_le _, rfl, rfl, HX.out.2.2.1, by have := HX.out.2.1; omega, U32.of_buf H2.out.2.1, H2.out.1, fun j e => ?_, H2.out.2.2⟩
    have h1 := H2.out.2.1.ownGe j e
    have h2 := H1.out.1
    exact ⟨own_lt H2.out.2.1 j e, by have := h2.1.lt; omega, by have := h2.2.1.1.lt; omega, fun e2 => by have := (h2.2.1.own_lt j e2).1; omega⟩
  case round =>
    obtain ⟨k, l, v6, sv, hk, rfl, rfl, hasc, hll, hv6, hvw, hap, hbel⟩ := hrel
    have hkI : (k : Int) ≤ q := by omega
    by_cases hlt : k < q
    · have hltI : (k : Int) < q := by omega
      have hkl : k < L.length := by have := HX.out.2.2.2; omega
      obtain ⟨b, o, u, eb, rfl, hb, hcu, hE, heb, huid⟩ := HX.out.1 k hkl
      obtain ⟨pe, eo, ce, rfl, -, -⟩ := id hE
      have c0 : wr.cell? ⟨b, o + k, none⟩ = some (.slice pe L[k].length ce) := (hbel.cell (p := ⟨b, o + k, none⟩) hb).trans hcu
      obtain ⟨E, hEE⟩ : ∃ E, L[k] = E := ⟨_, rfl⟩
      rw [hEE] at c0 hE heb huid
      obtain ⟨z, hz⟩ : ∃ z, E.length = z := ⟨_, rfl⟩
      clear hcu hEE
      by_cases h30 : 30 < z
      · have h30I : (30 : Int) < z := by omega
        have h30d : decide ((30 : Int) < z) = true := decide_eq_true h30I
        rw [hz] at c0
        have HB := Lib.hid hbel
        clear hbel hasc hll hv6 hvw hap hE heb huid hz
        go_wp2_with fail
        refine (HA.out _).mono ?_
        rintro e w3 ⟨rfl, hb3⟩
        have H3 := Lib.hid (HB.out.trans (hb3.mono HB.out.size))
        clear hb3
        go_wp2_with fail
        go_ret
        exact ⟨rfl, H3.out⟩
      · have h30I : ¬ ((30 : Int) < z) := by omega
        have h30d : decide ((30 : Int) < z) = false := decide_eq_false h30I
        have hl2 : l.length ≤ 660 := by omega
        have HRA := Lib.hid (rapply_any l E eb v6 (.slice pe E.length ce) wr hv6 (fun j e => (hap j e).1) (hE.below2 hbel heb) (heb.imp_right fun h => by have := hbel.size; omega) hasc (by omega))
        have hre := apply_ref l E
        have hfc := applyV_facts l E hasc
        obtain ⟨fl, hfl⟩ : ∃ fl, (applyV (l, false) E).1.1 = fl := ⟨_, rfl⟩
        obtain ⟨R, hR⟩ : ∃ R, (applyV (l, false) E).2 = R := ⟨_, rfl⟩
        rw [hfl, hR] at hre hfc
        rw [show (runR l E E.length).1.1 = fl from (Prod.ext_iff.1 hre).1, show (runR l E E.length).2 = R from (Prod.ext_iff.1 hre).2] at HRA
        have HAp : Hid (∀ W, Below wr.heap.size wr W → Calls Tryz.prog 11 #[.pointer (some ⟨vb, 0, none⟩), .slice pe E.length ce] W fun e w' => ∃ rv v', e = .returned rv ∧ RpR w' rv R ∧ VwM w' w.heap.size vb ib v' fl false ∧ FrV W w' w.heap.size vb ib sv v') := Lib.hid (fun W hW => by
          have hwW := hbel.trans (hW.mono hbel.size)
          have hv := hvw.below hW (Nat.le_refl _)
          refine (apply_any w.heap.size vb ib sv l false E _ eb W hv (hE.below2 hwW heb) (heb.imp_right fun h => ⟨by have := hwW.size; omega, by have := hv.2.2.2.2; omega, by have := hv.2.1.2.2.2; omega, fun e => by have := (hv.2.1.own_lt _ e).2; omega⟩) hasc (by omega) huid).mono ?_
          rintro e w' ⟨rv, v', rfl, hbuf, hv', hf, -⟩
          rw [hR] at hbuf
          rw [hfl] at hv'
          exact ⟨rv, v', rfl, RpR.of_buf hbuf, hv', hf⟩)
        have HK := Lib.hid (And.intro hvw (And.intro hap (And.intro hbel (And.intro hfc (And.intro hll (And.intro hl2 hz))))))
        rw [hz] at HRA HAp c0
        clear hbel hasc hll hv6 hvw hap hE heb huid hz hre hfc hfl hR hl2
        go_wp2_with fail
        refine HRA.out.mono ?_
        rintro e w3 ⟨v1, v2, rfl, hrs⟩
        obtain ⟨A1, c1, rfl, -, -⟩ := id hrs.2.1
        obtain ⟨A2, c2, rfl, -⟩ := id (RpR.of_buf hrs.2.2.1)
        have H3 := Lib.hid hrs
        clear hrs
        go_wp2_with fail
        refine (HAp.out _ H3.out.2.2.2.1).mono ?_
        rintro e w4 ⟨rv, s4, rfl, hrp, hv4, hf4⟩
        -- the reference's list and answer lie apart from the view
        have hw3 := HK.out.1.below H3.out.2.2.2.1 (Nat.le_refl _)
        have hap3 : ∀ j, (Value.slice A1 fl.length c1).ownBlock = some j → j ≠ vb ∧ j ≠ ib ∧ sv.ownBlock ≠ some j := fun j e => by
          rcases (H3.out.1 j e).2 with e2 | e2
          · exact (HK.out.2.1 j e2).2
          · have h2 := HK.out.1
            exact ⟨by have := h2.1.lt; omega, by have := h2.2.1.1.lt; omega, fun e3 => by have := (h2.2.1.own_lt j e3).1; omega⟩
        have hU4 : U32 w4 w4.heap.size (.slice A1 fl.length c1) fl := (H3.out.2.1.kept fun j _ hj e => (hf4.2.1 j hj (hap3 j e).1 (hap3 j e).2.1 (hap3 j e).2.2).1).mono hf4.2.2
        have hap4 : ∀ j, (Value.slice A1 fl.length c1).ownBlock = some j → j < w4.heap.size ∧ j ≠ vb ∧ j ≠ ib ∧ s4.ownBlock ≠ some j := fun j e => ⟨Nat.lt_of_lt_of_le (H3.out.1 j e).1 hf4.2.2, (hap3 j e).1, (hap3 j e).2.1, (hf4.2.1 j (H3.out.1 j e).1 (hap3 j e).1 (hap3 j e).2.1 (hap3 j e).2.2).2⟩
        have hwant : RpR w4 (.slice A2 R.length c2) R := RpR.of_buf (H3.out.2.2.1.kept hf4.2.2 fun j hj e => (hf4.2.1 j hj (fun e2 => by have := H3.out.2.2.1.ownGe j e; have := HK.out.1.1.lt; omega) (fun e2 => by have := H3.out.2.2.1.ownGe j e; have := HK.out.1.2.1.1.lt; omega) (fun e2 => by have := H3.out.2.2.1.ownGe j e; have := (HK.out.1.2.1.own_lt j e2).1; omega)).1)
        have hbel4 : Below w.heap.size w w4 := (HK.out.2.2.1.trans (H3.out.2.2.2.1.mono HK.out.2.2.1.size)).trans (hf4.1 _ (Nat.le_refl _))
        have HS := Lib.hid (samelist_any R rv (.slice A2 R.length c2) w4 hrp hwant (by have := HK.out.2.2.2.1.2.2; have := HK.out.2.2.2.2.2.2; omega))
        have H4 := Lib.hid (And.intro hv4 (And.intro hU4 (And.intro hap4 hbel4)))
        clear hrp hv4 hf4 hw3 hap3 hU4 hap4 hwant hbel4
        go_wp2_with fail
        refine HS.out.mono ?_
        rintro e w5 ⟨rfl, hb5⟩
        have H5 := Lib.hid (And.intro (H4.out.1.below hb5 (Nat.le_refl _)) (And.intro ((H4.out.2.1.below hb5 (Nat.le_refl _)).mono hb5.size) (And.intro (H4.out.2.2.2.trans (hb5.mono H4.out.2.2.2.size)) hb5.size)))
        clear hb5
        have hfl2 : fl.length ≤ 1000000 := by have := HK.out.2.2.2.1.2.1; have := HK.out.2.2.2.2.2.1; have := HK.out.2.2.2.2.2.2; omega
        have HFL := Lib.hid hfl2
        clear hfl2
        go_wp2_with fail
        refine (uidsv_any vb fl _ H5.out.1.vwr HFL.out).mono ?_
        rintro e w7 ⟨v7, rfl, hB7, hb7⟩
        have H7 := Lib.hid (And.intro (Rd1.of_buf hB7) (And.intro (H5.out.1.below hb7 (Nat.le_refl _)) (And.intro ((H5.out.2.1.below hb7 (Nat.le_refl _)).mono hb7.size) (And.intro (H5.out.2.2.1.trans (hb7.mono H5.out.2.2.1.size)) (Nat.le_trans H5.out.2.2.2 hb7.size)))))
        clear hB7 hb7
        go_wp2_with fail
        refine (eq_u32 H7.out.1 (Rd1.of_u32 H7.out.2.2.1) (by have := HFL.out; omega) (by have := HFL.out; omega)).mono ?_
        rintro e w9 ⟨rfl, qq, rfl⟩
        have H9 := Lib.hid (show VwM (w7.drewN qq) w.heap.size vb ib s4 fl false ∧ U32 (w7.drewN qq) (w7.drewN qq).heap.size (.slice A1 fl.length c1) fl ∧ Below w.heap.size w (w7.drewN qq) from ⟨H7.out.2.1.below (drewn_below (Below.refl _ _) qq) (Nat.le_refl _), H7.out.2.2.1.below (drewn_below (Below.refl _ _) qq) (Nat.le_refl _), drewn_below H7.out.2.2.2.1 qq⟩)
        simp only [decide_true]
        go_wp2_with fail
        refine (vlen_any _ _ _ H9.out.1.vwr).mono ?_
        rintro e w10 ⟨rfl, rfl⟩
        go_wp2_with fail
        go_roundw
        case rel =>
          refine ⟨k + 1, fl, _, s4, by omega, rfl, by go_num, HK.out.2.2.2.1.1, ?_, H9.out.2.1, H9.out.1, ?_, H9.out.2.2⟩
          · have := HK.out.2.2.2.1.2.1; have := HK.out.2.2.2.2.1; have := HK.out.2.2.2.2.2.2; omega
          · have hsz : w4.heap.size ≤ (w7.drewN qq).heap.size := H7.out.2.2.2.2
            exact fun j e => ⟨Nat.lt_of_lt_of_le (H4.out.2.2.1 j e).1 hsz, (H4.out.2.2.1 j e).2⟩
        case measure => simp [intOf]; omega
    · obtain rfl : k = q := by omega
      have H5 := Lib.hid hbel
      clear hbel hasc hll hv6 hvw hap
      go_wp2_with fail
      refine (HA.out _).mono ?_
      rintro e w6 ⟨rfl, hb6⟩
      have H6 := Lib.hid (H5.out.trans (hb6.mono H5.out.size))
      clear hb6
      go_wp2_with fail
      go_ret
      exact ⟨rfl, H6.out⟩
end Go.Proofs.YtponmnabbieafaaGreatDoor
