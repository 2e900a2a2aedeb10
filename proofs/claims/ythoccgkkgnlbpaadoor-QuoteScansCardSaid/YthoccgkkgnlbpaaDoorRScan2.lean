/- The walk of the reference's ScanLiteral. -/
import Derived.Test.YthoccgkkgnlbpaaDoorRScan1
import Derived.Test.YthoccgkkgnlbpaaDoorLitSpec
import Derived.Test.YthoccgkkgnlbpaaDoorLawForms
namespace Go.Proofs.YthoccgkkgnlbpaaDoor
open Go.RowKit

theorem u8_bne {x : UInt8} {v : Nat} (hv : v < 256) (h : x ≠ UInt8.ofNat v) : ((x.toNat : Int) != (v : Int)) = true := by
  have := u8_ne hv h
  simpa [bne] using this

set_option maxRecDepth 100000 in
set_option maxHeartbeats 3200000 in
theorem rScanLiteral_any (P : Option Addr) (l : List UInt8) (c : Nat) (a : Int) (w : World) (hb : Bys w w.heap.size P l) (hl : l.length ≤ 1048576) (hlc : l.length ≤ c) :
    Calls Tryd.prog 23 #[.slice P l.length c, .int .i64 a] w (RetS w (scanL l a)) := by
  by_cases ha : a < 0 ∨ (l.length : Int) ≤ a
  · rw [scanL_no l a ha]
    generalize l.length = n at *
    clear hb hl hlc
    by_cases ha0 : a < 0
    all_goals
      first
        | (have ha1 : ¬ a < 0 := ha0; have ha2 : (n : Int) ≤ a := by omega)
        | skip
      clear ha
      go_enter Tryd.func23, Tryd.ntmps23
      go_wp2_with fail
      go_ret3
      exact RetS.none (Below.refl _ _)
  · obtain ⟨k, rfl⟩ := Int.eq_ofNat_of_zero_le (show 0 ≤ a by omega)
    have hk : k < l.length := by omega
    obtain ⟨p, o, rfl, hp, hc⟩ := hb (by omega)
    have HBY := Lib.hid hb
    have HC := Lib.hid hc
    have ck := hc k hk
    have hk0 : (0 : Int) ≤ k := by omega
    have hk1 : (k : Int) < l.length := by omega
    have hk2 : (l.length : Int) ≤ 1048576 := by omega
    by_cases e123 : l[k] = 123
    · rw [e123] at ck
      have ck' : w.cell? ⟨p, o + k, none⟩ = some (.int .u8 123) := ck
      have E := Lib.hid e123
      have HK := Lib.hid hk
      obtain ⟨r, hr⟩ : ∃ r, scanL l k = r := ⟨_, rfl⟩
      have HR := Lib.hid hr
      rw [hr]
      obtain ⟨n, hn⟩ : ∃ n, n = l.length := ⟨_, rfl⟩
      have HN := Lib.hid hn
      rw [← hn] at hk hk1 hk2 hlc ⊢
      have hkd0 : decide ((k : Int) < 0) = false := decide_eq_false (by omega)
      have hkd1 : decide ((n : Int) ≤ (k : Int)) = false := decide_eq_false (by omega)
      have hkd2 : decide (n ≤ k) = false := decide_eq_false (by omega)
      clear hc hb ha e123 ck hn hl hr
      go_enter Tryd.func23, Tryd.ntmps23
      go_wp2_with fail
      go_loop [7] (fun v => ∃ i : Nat, k + 1 ≤ i ∧ i ≤ n ∧ i ≤ k + 13 ∧ v = .int .i64 (i : Int) ∧ NoMark l k i) (fun v => n - (intOf v).toNat)
      case atStart => exact ⟨k + 1, Nat.le_refl _, by omega, by omega, by go_num, fun j hj h1 h2 => absurd h2 (by omega)⟩
      case round =>
        obtain ⟨i, hi1, hi2, hi3, rfl, hnm⟩ := hrel
        have NM := Lib.hid hnm
        clear hnm
        by_cases hin : i < n
        · have hil : i < l.length := by have := HN.out; omega
          have ci := HC.out i hil
          have hi0 : (0 : Int) ≤ i := by omega
          have hi4 : (i : Int) < n := by omega
          by_cases e125 : l[i] = 125
          · obtain ⟨j, hj⟩ : ∃ j, i = k + 1 + j := ⟨i - (k + 1), by omega⟩
            have hF : firstIx 125 (l.drop (k + 1)) = some (i - (k + 1)) := by
              subst hj
              rw [show k + 1 + j - (k + 1) = j by omega]
              exact NM.out.first hil e125
            rw [e125] at ci
            have ci' : w.cell? ⟨p, o + i, none⟩ = some (.int .u8 125) := ci
            have hby := (HBY.out.from (k + 1)).upto (i - (k + 1))
            have hlen : ((l.drop (k + 1)).take (i - (k + 1))).length = i - (k + 1) := by rw [List.length_take, List.length_drop]; omega
            have hcv := fun c => conv_bys (P := Tryd.prog) hby c Tryd.underlying22 Tryd.underlying5 Tryd.underlying9
            rw [hlen, Option.map_some, Go.WideShapes.add_plain] at hcv
            have HCV := Lib.hid hcv
            have HNU := Lib.hid (rNumber_any (ofL ((l.drop (k + 1)).take (i - (k + 1)))) w (by show (List.toArray _).size ≤ _; rw [List.size_toArray, hlen]; unfold maxLen; omega))
            rw [ofL_data] at HNU
            have hik : (k : Int) + 1 ≤ i := by omega
            have hic : (i : Int) ≤ c := by omega
            have hkc : ¬ c = k + 1 := by omega
            clear hcv hby e125 ci hj hlen
            cases hnb : numB ((l.drop (k + 1)).take (i - (k + 1))) with
            | none =>
              have R : Hid (r = none) := Lib.hid (by rw [← HR.out]; exact scanL_nonum HK.out E.out hF hnb)
              simp only [hnb, numV_none] at HNU
              clear hnb hF
              go_wp2_with fail
              rw [HCV.out]
              simp only [Result.andThen]
              rw [Oper.upon_value]
              go_wp2_with fail
              refine HNU.out.mono ?_
              rintro e w2 ⟨rfl, rfl⟩
              go_wp2_with fail
              go_ret3
              rw [R.out]
              exact RetS.none (Below.refl _ _)
            | some v =>
              have hvu := numB_le hnb
              have R0 : Hid (r = if v ≤ 65536 ∧ l[i + 1]? = some 13 ∧ l[i + 2]? = some 10 ∧ i + 3 + v ≤ l.length then some ((l.drop (i + 3)).take v, i + 3 + v) else none) := Lib.hid (by
                rw [← HR.out, scanL_num HK.out E.out hF hnb]
                rw [show k + 1 + (i - (k + 1)) = i by omega])
              simp only [hnb, numV_some] at HNU
              clear hnb hF
              by_cases hv : v ≤ 65536
              · by_cases h3 : i + 3 ≤ n
                · have h3l : i + 2 < l.length := by have := HN.out; omega
                  have d1 := HC.out (i + 1) (by omega)
                  have d2 := HC.out (i + 2) h3l
                  have hG1 : l[i + 1]? = some (l[i + 1]'(by omega)) := List.getElem?_eq_getElem _
                  have hG2 : l[i + 2]? = some (l[i + 2]'h3l) := List.getElem?_eq_getElem _
                  rw [hG1, hG2] at R0
                  obtain ⟨x1, hx1⟩ : ∃ x, l[i + 1]'(by omega) = x := ⟨_, rfl⟩
                  obtain ⟨x2, hx2⟩ : ∃ x, l[i + 2]'h3l = x := ⟨_, rfl⟩
                  rw [hx1] at d1 R0
                  rw [hx2] at d2 R0
                  have d1' : w.cell? ⟨p, o + i + 1, none⟩ = _ := d1
                  have d2' : w.cell? ⟨p, o + i + 2, none⟩ = _ := d2
                  clear hG1 hG2 hx1 hx2
                  by_cases q1 : x1 = 13
                  · have q1' : (x1.toNat : Int) = 13 := by rw [q1]; rfl
                    rw [q1'] at d1 d1'
                    by_cases q2 : x2 = 10
                    · have q2' : (x2.toNat : Int) = 10 := by rw [q2]; rfl
                      rw [q2'] at d2 d2'
                      by_cases hvn : i + 3 + v ≤ n
                      · have R : Hid (r = some ((l.drop (i + 3)).take v, i + 3 + v)) := Lib.hid (by rw [R0.out, if_pos ⟨hv, by rw [q1], by rw [q2], by rw [← HN.out]; exact hvn⟩])
                        have hby2 := (HBY.out.from_if (i + 3) c (by have := HN.out; omega)).upto v
                        have hlen2 : ((l.drop (i + 3)).take v).length = v := by rw [List.length_take, List.length_drop]; have := HN.out; omega
                        obtain ⟨p4, c4, w4, hrun, -, hbuf, hbw⟩ := own_copy w _ (c - (i + 3)) _ hby2 (by rw [hlen2]; omega)
                        rw [hlen2, Option.map_some, Go.WideShapes.add_plain] at hrun
                        rw [hlen2] at hbuf
                        have HB := Lib.hid (And.intro hbuf hbw)
                        have HL2 := Lib.hid hlen2
                        have hvn2 : ¬ ((n : Int) - (i + 3) < v) := by omega
                        have hv2 : (v : Int) ≤ 65536 := by omega
                        have hic3 : (i : Int) + 3 + v ≤ c := by omega
                        have hin3 : (i : Int) + 3 ≤ n := by omega
                        clear q1 q2 q1' q2' R0 hbuf hbw hlen2 hby2
                        by_cases hcf : c = i + 3
                        · subst hcf
                          rw [if_pos rfl] at hrun
                          have hv0 : (v : Int) ≤ 0 := by omega
                          have hvv : i + 3 + v - (i + 3) = v := by omega
                          have hcc : i + 3 - (i + 3) = 0 := by omega
                          have HR1 : Hid ((Builtin.append_ #[22, 22] 22 #[.slice (some ⟨w.heap.size, 0, none⟩) 0 0, .slice (some ⟨p, o, none⟩) (i + 3 + v - (i + 3)) (i + 3 - (i + 3))]).run Tryd.prog (w.alloc (.cells #[] 5)) = .ok (.slice p4 v c4) w4) := Lib.hid (by rw [hvv]; exact hrun)
                          have HR2 : Hid ((Builtin.append_ #[22, 22] 22 #[.slice (some ⟨w.heap.size, 0, none⟩) 0 0, .slice (some ⟨p, o, none⟩) (i + 3 + v - (i + 3)) 0]).run Tryd.prog (w.alloc (.cells #[] 5)) = .ok (.slice p4 v c4) w4) := Lib.hid (by rw [hvv]; rw [hcc] at hrun; exact hrun)
                          have HR3 : Hid ((Builtin.append_ #[22, 22] 22 #[.slice (some ⟨w.heap.size, 0, none⟩) 0 0, .slice (some ⟨p, o, none⟩) v 0]).run Tryd.prog (w.alloc (.cells #[] 5)) = .ok (.slice p4 v c4) w4) := Lib.hid (by rw [hcc] at hrun; exact hrun)
                          clear hrun hvv hcc
                          go_wp2_with fail
                          rw [HCV.out]
                          simp only [Result.andThen]
                          rw [Oper.upon_value]
                          go_wp2_with fail
                          refine HNU.out.mono ?_
                          rintro e w2 ⟨rfl, rfl⟩
                          go_wp2_with (first
                            | (at_builtin; refine wpList_append_run _ rfl (.tmp 107) (.tmp 114) _ _ rfl _ _ rfl rfl _ _ HR1.out ?_)
                            | (at_builtin; refine wpList_append_run _ rfl (.tmp 107) (.tmp 114) _ _ rfl _ _ rfl rfl _ _ HR2.out ?_)
                            | (at_builtin; refine wpList_append_run _ rfl (.tmp 107) (.tmp 114) _ _ rfl _ _ rfl rfl _ _ HR3.out ?_))
                          go_ret3
                          rw [R.out]
                          refine RetS.some ?_ HB.out.2
                          rw [HL2.out]; exact HB.out.1
                        · have hcf2 : (i : Int) + 3 < c := by omega
                          have hvv : i + 3 + v - (i + 3) = v := by omega
                          rw [if_neg hcf] at hrun
                          have HRUN : Hid ((Builtin.append_ #[22, 22] 22 #[.slice (some ⟨w.heap.size, 0, none⟩) 0 0, .slice (some ⟨p, o + (i + 3), none⟩) (i + 3 + v - (i + 3)) (c - (i + 3))]).run Tryd.prog (w.alloc (.cells #[] 5)) = .ok (.slice p4 v c4) w4) := Lib.hid (by rw [hvv]; exact hrun)
                          clear hrun hvv
                          go_wp2_with fail
                          rw [HCV.out]
                          simp only [Result.andThen]
                          rw [Oper.upon_value]
                          go_wp2_with fail
                          refine HNU.out.mono ?_
                          rintro e w2 ⟨rfl, rfl⟩
                          go_wp2_with (at_builtin; refine wpList_append_run _ rfl (.tmp 107) (.tmp 114) _ _ rfl _ _ rfl rfl _ _ HRUN.out ?_)
                          go_ret3
                          rw [R.out]
                          refine RetS.some ?_ HB.out.2
                          rw [HL2.out]; exact HB.out.1
                      · have R : Hid (r = none) := Lib.hid (by rw [R0.out, if_neg (by rw [← HN.out]; rintro ⟨_, _, _, h⟩; exact hvn h)])
                        have hvn2 : (n : Int) - (i + 3) < v := by omega
                        have hv2 : (v : Int) ≤ 65536 := by omega
                        have hin3 : (i : Int) + 3 ≤ n := by omega
                        clear q1 q2 q1' q2' R0
                        go_wp2_with fail
                        rw [HCV.out]
                        simp only [Result.andThen]
                        rw [Oper.upon_value]
                        go_wp2_with fail
                        refine HNU.out.mono ?_
                        rintro e w2 ⟨rfl, rfl⟩
                        go_wp2_with fail
                        go_ret3
                        rw [R.out]
                        exact RetS.none (Below.refl _ _)
                    · have R : Hid (r = none) := Lib.hid (by rw [R0.out, if_neg (by rintro ⟨_, _, h, _⟩; exact q2 (by injection h))])
                      have b2 : ((x2.toNat : Int) != 10) = true := u8_bne (v := 10) (by decide) q2
                      have hv2 : (v : Int) ≤ 65536 := by omega
                      have hin3 : (i : Int) + 3 ≤ n := by omega
                      generalize (x2.toNat : Int) = z2 at d2 d2' b2
                      clear q1 q2 q1' R0
                      go_wp2_with fail
                      rw [HCV.out]
                      simp only [Result.andThen]
                      rw [Oper.upon_value]
                      go_wp2_with fail
                      refine HNU.out.mono ?_
                      rintro e w2 ⟨rfl, rfl⟩
                      go_wp2_with fail
                      go_ret3
                      rw [R.out]
                      exact RetS.none (Below.refl _ _)
                  · have R : Hid (r = none) := Lib.hid (by rw [R0.out, if_neg (by rintro ⟨_, h, _, _⟩; exact q1 (by injection h))])
                    have b1 : ((x1.toNat : Int) != 13) = true := u8_bne (v := 13) (by decide) q1
                    have hv2 : (v : Int) ≤ 65536 := by omega
                    have hin3 : (i : Int) + 3 ≤ n := by omega
                    generalize (x1.toNat : Int) = z1 at d1 d1' b1
                    clear q1 R0 d2 d2'
                    go_wp2_with fail
                    rw [HCV.out]
                    simp only [Result.andThen]
                    rw [Oper.upon_value]
                    go_wp2_with fail
                    refine HNU.out.mono ?_
                    rintro e w2 ⟨rfl, rfl⟩
                    go_wp2_with fail
                    go_ret3
                    rw [R.out]
                    exact RetS.none (Below.refl _ _)
                · have R : Hid (r = none) := Lib.hid (by rw [R0.out, if_neg (by rw [← HN.out]; rintro ⟨_, _, _, h⟩; omega)])
                  have hin3 : (n : Int) < (i : Int) + 3 := by omega
                  have hv2 : (v : Int) ≤ 65536 := by omega
                  clear R0
                  go_wp2_with fail
                  rw [HCV.out]
                  simp only [Result.andThen]
                  rw [Oper.upon_value]
                  go_wp2_with fail
                  refine HNU.out.mono ?_
                  rintro e w2 ⟨rfl, rfl⟩
                  go_wp2_with fail
                  go_ret3
                  rw [R.out]
                  exact RetS.none (Below.refl _ _)
              · have R : Hid (r = none) := Lib.hid (by rw [R0.out, if_neg (by rintro ⟨h, _, _, _⟩; exact hv h)])
                have hv2 : 65536 < (v : Int) := by omega
                clear R0
                go_wp2_with fail
                rw [HCV.out]
                simp only [Result.andThen]
                rw [Oper.upon_value]
                go_wp2_with fail
                refine HNU.out.mono ?_
                rintro e w2 ⟨rfl, rfl⟩
                go_wp2_with fail
                go_ret3
                rw [R.out]
                exact RetS.none (Below.refl _ _)
          · have e1 : ((l[i].toNat : Int) != 125) = true := u8_bne (v := 125) (by decide) e125
            have NM2 := Lib.hid (NM.out.next hil e125)
            generalize (l[i].toNat : Int) = x at ci e1
            clear e125
            by_cases h12 : i ≤ k + 12
            · have h13 : (i : Int) - k ≤ 12 := by omega
              go_wp2_with fail
              go_round
              case rel => exact ⟨i + 1, by omega, by omega, by omega, by go_num, NM2.out⟩
              case measure => simp [intOf]; omega
            · obtain rfl : i = k + 13 := by omega
              have h13 : ¬ ((k + 13 : Nat) : Int) - k ≤ 12 := by omega
              have R := Lib.hid (NM2.out.far HK.out E.out)
              go_wp2_with fail
              go_ret3
              rw [← HR.out, R.out]
              exact RetS.none (Below.refl _ _)
        · obtain rfl : i = n := by omega
          have R := Lib.hid (scanL_nomark HK.out E.out (NoMark.whole (by rw [← HN.out]; exact NM.out)))
          go_wp2_with fail
          go_ret3
          rw [← HR.out, R.out]
          exact RetS.none (Below.refl _ _)
    · rw [scanL_bad l k hk e123]
      have e1 : ((l[k].toNat : Int) != 123) = true := u8_bne (v := 123) (by decide) e123
      generalize (l[k].toNat : Int) = x at ck e1
      clear hc hb ha e123 HC HBY
      generalize l.length = n at *
      go_enter Tryd.func23, Tryd.ntmps23
      go_wp2_with fail
      go_ret3
      exact RetS.none (Below.refl _ _)
end Go.Proofs.YthoccgkkgnlbpaaDoor
