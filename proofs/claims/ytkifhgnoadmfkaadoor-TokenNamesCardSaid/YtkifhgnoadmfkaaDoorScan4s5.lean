/- The walk of the scanner's method literal: the ways to case 5. -/
import Derived.Test.YtkifhgnoadmfkaaDoorScan4p
set_option linter.unusedVariables false
set_option linter.unusedSimpArgs false
namespace Go.Proofs.YtkifhgnoadmfkaaDoor
open Go.RowKit

set_option maxRecDepth 100000 in
set_option maxHeartbeats 6400000 in
theorem sLit5_any (w0 : World) (g : Nat) (P : Option Addr) (l : List UInt8) (c : Nat) (a : Int) (w : World) (h : St w0 w g P l.length c a (.slice none 0 0) []) (hb : Bys w0 g P l) (hl : l.length ≤ 1048576) (hlc : l.length ≤ c) (hS : Std w0) (hgw : w0.heap.size ≤ g) (ha0 : 0 ≤ a) (ha1 : a < l.length) (h123 : ∀ k (_ : a = ((k : Nat) : Int)) (hk : k < l.length), l[k] = 123) (hsel : ∀ k : Nat, a = (k : Int) → litSel l c k = 5) :
    Calls Tryd.prog 74 #[.pointer (some ⟨g, 0, none⟩)] w (ScanPost w0 g P l.length c (scanL l a)) := by
  by_cases ha : a < 0 ∨ (l.length : Int) ≤ a
  · exact absurd ha (by omega)
  · obtain ⟨k, rfl⟩ := Int.eq_ofNat_of_zero_le (show 0 ≤ a by omega)
    have hk : k < l.length := by omega
    obtain ⟨p, o, rfl, hp, hc⟩ := hb (by omega)
    have hcw : ∀ w', Below g w0 w' → ∀ i (hi : i < l.length), w'.cell? ⟨p, o + i, none⟩ = some (.int .u8 (l[i].toNat : Int)) := fun w' hw i hi => by rw [hw.cell (p := ⟨p, o + i, none⟩) hp]; exact hc i hi
    have HCW := Lib.hid hcw
    have HBY := Lib.hid hb
    have hpg : p ≠ g := by omega
    by_cases e123 : l[k] = 123
    · have HI := Lib.hid (is_st (v := 123) (b := true) h hk hl (hcw w h.2.2 k hk) hpg (by rw [e123]; rfl))
      obtain ⟨r, hr⟩ : ∃ r, scanL l k = r := ⟨_, rfl⟩
      rw [hr]
      have HR := Lib.hid hr
      have HE := Lib.hid (show ∃ h : k < l.length, l[k] = 123 from ⟨hk, e123⟩)
      obtain ⟨n, hn⟩ : ∃ n, l.length = n := ⟨_, rfl⟩
      have HN := Lib.hid hn
      have hkn : k < n := by omega
      have hn5 : n ≤ 1048576 := by omega
      have hnc : n ≤ c := by omega
      rw [hn] at HI ⊢
      clear hcw hc hb h ha e123 hr hk hl hlc hn
      have HS0 := Lib.hid hS
      clear hS
      by_cases hck : c = k + 1
      · exact absurd (hsel k rfl) (by unfold litSel; rw [List.drop_of_length_le (by have := HN.out; omega)]; exact (by decide : ¬ ((0 : Nat) = 5)))
      · have HBR := Lib.hid (HBY.out.from (k + 1))
        have hrl : (l.drop (k + 1)).length = n - (k + 1) := by rw [List.length_drop]; have := HN.out; omega
        have HRL := Lib.hid hrl
        have hk1 : k + 1 ≤ n := by omega
        have hkc : k + 1 ≤ c := by omega
        have HIX := Lib.hid (fun w' (hw : Below g w0 w') => idxByte_any ⟨p, o + (k + 1), none⟩ (c - (k + 1)) (n - (k + 1)) (l.drop (k + 1)) hrl w' g (HBR.out.belowle hw (Nat.le_refl _)))
        clear hrl
        cases hf : firstIx 125 (l.drop (k + 1)) with
        | none => exact absurd (hsel k rfl) (by unfold litSel; rw [hf]; exact (by decide : ¬ ((0 : Nat) = 5)))
        | some j =>
          rw [hf] at HIX
          rw [show ixV (some j) = (j : Int) from rfl] at HIX
          obtain ⟨a1, b1, e1, ha1, _⟩ := firstIx_some hf
          have hjn : k + 1 + j + 1 ≤ n := by
            have := congrArg List.length e1
            rw [HRL.out] at this
            simp at this
            omega
          have R1 : Hid (numB ((l.drop (k + 1)).take j) = none → r = none) := Lib.hid (fun hnb => by
            rw [← HR.out]
            obtain ⟨q1, q2⟩ := HE.out
            exact scanL_nonum q1 q2 hf hnb)
          have R2 : Hid (∀ v, numB ((l.drop (k + 1)).take j) = some v → r = if v ≤ 65536 ∧ l[k + 1 + j + 1]? = some 13 ∧ l[k + 1 + j + 2]? = some 10 ∧ k + 1 + j + 3 + v ≤ l.length then some ((l.drop (k + 1 + j + 3)).take v, k + 1 + j + 3 + v) else none) := Lib.hid (fun v hnb => by
            rw [← HR.out]
            obtain ⟨q1, q2⟩ := HE.out
            exact scanL_num q1 q2 hf hnb)
          have HSEL0 : Hid ((numB ((l.drop (k + 1)).take j)).isSome = true → (if (numB ((l.drop (k + 1)).take j)).getD 0 ≤ 65536 then if l[k + 1 + j + 1]? = some 13 then if l[k + 1 + j + 2]? = some 10 then if k + 1 + j + 3 + (numB ((l.drop (k + 1)).take j)).getD 0 ≤ l.length then if c = k + 1 + j + 3 then 5 else 6 else 4 else 3 else 2 else 1) = 5) := Lib.hid (fun hs => by
            have h := hsel k rfl
            unfold litSel at h; rw [hf] at h; simp only [hs, if_true] at h; exact h)
          have HBT := Lib.hid (HBR.out.upto j)
          have htl : ((l.drop (k + 1)).take j).length = j := by rw [List.length_take, HRL.out]; omega
          have HCV := Lib.hid (fun W (hW : Below g w0 W) (cc : Nat) => conv_bys (P := Tryd.prog) (HBT.out.belowle hW (Nat.le_refl _)) cc Tryd.underlying22 Tryd.underlying5 Tryd.underlying9)
          have HNU := Lib.hid (fun W (hW : Below g w0 W) => number_any (ofL ((l.drop (k + 1)).take j)) W (by show (List.toArray _).size ≤ _; rw [List.size_toArray, htl]; omega) (HS0.out.below (hW.mono hgw)))
          rw [htl] at HCV
          rw [ofL_data] at HNU
          have hkt : 1 ≤ k + 1 := by omega
          clear htl hf e1 ha1 HE HR HRL hck hkn hsel
          rw [Option.map_some, Go.WideShapes.add_plain] at HCV
          generalize k + 1 = t at *
          have q1 : (IntKind.i64.wrap ((t : Int) + j)) = (t : Int) + j := IntWalk.i64_in _ (by omega)
          have q2 : 0 ≤ (t : Int) + j := by omega
          have q3 : ((t : Int) + j).toNat = t + j := by omega
          have q4 : (t : Int) + j ≤ c := by omega
          have Q := Lib.hid (And.intro q1 (And.intro q2 (And.intro q3 q4)))
          clear q1 q2 q3 q4
          go_enter Tryd.func74, Tryd.ntmps74
          go_wp2_with fail
          refine HI.out.mono ?_
          rintro e w1 ⟨rfl, hs⟩
          obtain ⟨c0, c1, c2, f1, f2⟩ := hs.cells
          have HS := Lib.hid hs
          clear hs
          go_wp2_with fail
          go_quiet ((go_at_call 19; exact Calls.quiet_of_same (HIX.out _ (YtkifhgnoadmfkaaDoor.Below.many HS.out.2.2 _))))
          go_wp2_with fail
          change Code.wp _ _ _ _ (w1.drewN nq)
          have hs1 := HS.out.drewN nq
          generalize w1.drewN nq = w2 at hs1 ⊢
          have HS1 := Lib.hid hs1
          clear hs1 c0 c1 c2 f1 f2
          have HNU2 := Lib.hid (fun W (hW : Below g w0 W) => by have := HNU.out W hW; rw [numV_get] at this; exact this)
          have hv32 : (numB ((l.drop t).take j)).getD 0 < 4294967296 := by
            cases hnb : numB ((l.drop t).take j) with
            | none => decide
            | some v => exact numB_le hnb
          have R1' : Hid ((numB ((l.drop t).take j)).isSome = false → r = none) := Lib.hid (fun h => R1.out (by simpa using h))
          have R2' : Hid ((numB ((l.drop t).take j)).isSome = true → r = if (numB ((l.drop t).take j)).getD 0 ≤ 65536 ∧ l[t + j + 1]? = some 13 ∧ l[t + j + 2]? = some 10 ∧ t + j + 3 + (numB ((l.drop t).take j)).getD 0 ≤ l.length then some ((l.drop (t + j + 3)).take ((numB ((l.drop t).take j)).getD 0), t + j + 3 + (numB ((l.drop t).take j)).getD 0) else none) := Lib.hid (fun h => by
            obtain ⟨v, hv⟩ := Option.isSome_iff_exists.1 h
            rw [hv]
            exact R2.out v hv)
          have HSEL := Lib.hid HSEL0.out
          clear R1 R2 HNU HSEL0
          generalize (numB ((l.drop t).take j)).isSome = nb at *
          generalize (numB ((l.drop t).take j)).getD 0 = v at *
          go_upto_region 6 with fail
          go_cut [4, 5] (fun s4 s5 wx => s4 = .int .u32 v ∧ s5 = .bool nb ∧ St w0 wx g (some ⟨p, o, none⟩) n c (t : Int) (.slice none 0 0) [])
          case first =>
            obtain ⟨c0, c1, c2, f1, f2⟩ := HS1.out.cells
            obtain ⟨q1, q2, q3, q4⟩ := Q.out
            have hcv1 := HCV.out w2.drew (YtkifhgnoadmfkaaDoor.Below.many HS1.out.2.2 1) (c - t)
            go_region_with (go_at_call 84; refine (HNU2.out _ ?_).mono ?_; exact YtkifhgnoadmfkaaDoor.Below.many HS1.out.2.2 1; rintro e w3 ⟨rfl, hb3⟩; have HB3 := Lib.hid hb3; clear hb3)
            all_goals
              go_wp2_with fail
              go_meet
              exact ⟨rfl, rfl, (HS1.out.drewN 1).below HB3.out⟩
          case rest =>
            obtain ⟨rfl, rfl, hst⟩ := hcut
            obtain ⟨c0, c1, c2, f1, f2⟩ := hst.cells
            have HST := Lib.hid hst
            clear hst HNU2 HCV HS1 HS HIX HI Q
            go_wp2_with fail
            change Code.wp _ _ _ _ (wc.setCell ⟨g, 1, none⟩ (.int .i64 ((t : Int) + (j + 1))))
            have hs3 := HST.out.take (w' := wc.setCell ⟨g, 1, none⟩ (.int .i64 ((t : Int) + (j + 1)))) (i := 0) rfl
            generalize wc.setCell ⟨g, 1, none⟩ (.int .i64 ((t : Int) + (j + 1))) = w4 at hs3 ⊢
            rw [show ((t : Int) + (j + 1)) = ((t + j + 1 : Nat) : Int) by omega] at hs3
            have HS3 := Lib.hid hs3
            clear hs3 c0 c1 c2 f1 f2 HST
            cases nb with
            | false =>
              have R := Lib.hid (R1'.out rfl)
              go_quiet (fail)
              go_wp2_with fail
              go_ret
              rw [R.out]
              exact ⟨rfl, YtkifhgnoadmfkaaDoor.Below.many HS3.out.2.2 nq⟩
            | true =>
              have R0 := Lib.hid (R2'.out rfl)
              clear R1' R2'
              by_cases hv : v ≤ 65536
              · have hv2 : decide (65536 < (v : Int)) = false := decide_eq_false (by omega)
                have hv3 : decide (65536 < v) = false := decide_eq_false (by omega)
                by_cases h13 : l[t + j + 1]? = some 13
                · have H13 := Lib.hid (fun W (hW : St w0 W g (some ⟨p, o, none⟩) n c ((t + j + 1 : Nat) : Int) (.slice none 0 0) []) => is_true 13 hW HBY.out HN.out hn5 hpg h13)
                  rw [show ((13 : UInt8).toNat : Int) = 13 from rfl] at H13
                  by_cases h10 : l[t + j + 2]? = some 10
                  · have H10 := Lib.hid (fun W (hW : St w0 W g (some ⟨p, o, none⟩) n c ((t + j + 1 + 1 : Nat) : Int) (.slice none 0 0) []) => is_true 10 hW HBY.out HN.out hn5 hpg h10)
                    rw [show ((10 : UInt8).toNat : Int) = 10 from rfl] at H10
                    have h3n : t + j + 3 ≤ n := by
                      have := (List.getElem?_eq_some_iff.1 h10).1
                      have := HN.out
                      omega
                    obtain ⟨a3, ha3⟩ : ∃ a3, a3 = t + j + 3 := ⟨_, rfl⟩
                    have HA3 := Lib.hid ha3
                    have q1 : (IntKind.i64.wrap ((n : Int) - a3)) = (n : Int) - a3 := IntWalk.i64_in _ (by omega)
                    have q2 : (IntKind.i64.wrap ((a3 : Int) + v)) = (a3 : Int) + v := IntWalk.i64_in _ (by omega)
                    have q3 : 0 ≤ (a3 : Int) + v := by omega
                    have q4 : ((a3 : Int) + v).toNat = a3 + v := by omega
                    have ha3n : a3 ≤ n := by omega
                    have q5 : (IntKind.i64.wrap (v : Int)) = (v : Int) := IntWalk.i64_in _ (by omega)
                    have Q := Lib.hid (And.intro q1 (And.intro q2 (And.intro q3 (And.intro q4 q5))))
                    rw [show t + j + 1 + 1 + 1 = a3 by omega] at H10
                    clear q1 q2 q3 q4 q5 ha3 h3n
                    by_cases hvn : a3 + v ≤ n
                    · have R : Hid (r = some ((l.drop a3).take v, a3 + v)) := Lib.hid (by rw [R0.out, if_pos ⟨hv, h13, h10, by have := HN.out; have := HA3.out; omega⟩, HA3.out])
                      have hw1 : decide ((n : Int) - a3 < v) = false := decide_eq_false (by omega)
                      have hS2 := HSEL.out rfl
                      rw [if_pos hv, if_pos h13, if_pos h10, if_pos (by have := HN.out; have := HA3.out; omega)] at hS2
                      have HSEL2 := Lib.hid hS2
                      clear h13 h10 hv R0 hS2 HSEL
                      go_cut [97] (fun s97 wx => s97 = .bool false ∧ St w0 wx g (some ⟨p, o, none⟩) n c (a3 : Int) (.slice none 0 0) [])
                      case first =>
                        obtain ⟨q1, q2, q3, q4, q5⟩ := Q.out
                        refine wp_region_any (by kernel_rfl) ?_
                        change wpAny _ _ _ _ _ _ _ (World.drew _)
                        refine wpAny_take (i := 0) (v := ?_) rfl (by kernel_rfl) (by kernel_rfl) (by kernel_rfl) (fun _ _ _ h => h) (Or.inl ⟨by rfl, ?_⟩) ?_
                        rotate_left
                        · intro w; go_simp
                          try with_reducible rfl
                        simp only [List.getElem_toArray, List.getElem_cons_zero, Act.put, List.setIfInBounds_toArray, List.set_cons_zero, List.set_cons_succ]
                        refine wpAny_take (i := 1) (v := ?_) rfl (by kernel_rfl) (by kernel_rfl) (by kernel_rfl) (fun _ _ _ h => h) (Or.inl ⟨by rfl, ?_⟩) ?_
                        rotate_left
                        · intro w; go_simp
                          try with_reducible rfl
                        simp only [List.getElem_toArray, List.getElem_cons_zero, List.getElem_cons_succ, Act.put, List.setIfInBounds_toArray, List.set_cons_zero, List.set_cons_succ]
                        refine wpAny_take (i := 2) (v := ?_) rfl (by kernel_rfl) (by kernel_rfl) (by kernel_rfl) (fun _ _ _ h => h) (Or.inl ⟨by rfl, ?_⟩) ?_
                        rotate_left
                        · intro w; go_simp
                          try with_reducible rfl
                        simp only [List.getElem_toArray, List.getElem_cons_zero, List.getElem_cons_succ, Act.put, List.setIfInBounds_toArray, List.set_cons_zero, List.set_cons_succ]
                        refine wpAny_take (i := 3) (v := ?_) rfl (by kernel_rfl) (by kernel_rfl) (by kernel_rfl) (fun _ _ _ h => h) (Or.inl ⟨by rfl, ?_⟩) ?_
                        rotate_left
                        · intro w; go_simp
                          try with_reducible rfl
                        simp only [List.getElem_toArray, List.getElem_cons_zero, List.getElem_cons_succ, Act.put, List.setIfInBounds_toArray, List.set_cons_zero, List.set_cons_succ]
                        refine wpAny_take (i := 4) (v := ?_) rfl (by kernel_rfl) (by kernel_rfl) (by kernel_rfl) (fun _ _ _ h => h) (Or.inl ⟨by rfl, ?_⟩) ?_
                        rotate_left
                        · intro w; go_simp
                          try with_reducible rfl
                        simp only [List.getElem_toArray, List.getElem_cons_zero, List.getElem_cons_succ, Act.put, List.setIfInBounds_toArray, List.set_cons_zero, List.set_cons_succ]
                        refine wpAny_take (i := 5) (v := ?_) rfl (by kernel_rfl) (by kernel_rfl) (by kernel_rfl) (fun _ _ _ h => h) (Or.inl ⟨by rfl, ?_⟩) ?_
                        rotate_left
                        · intro w; go_simp
                          try with_reducible rfl
                        simp only [List.getElem_toArray, List.getElem_cons_zero, List.getElem_cons_succ, Act.put, List.setIfInBounds_toArray, List.set_cons_zero, List.set_cons_succ]
                        refine wpAny_take (i := 6) (v := ?_) rfl (by kernel_rfl) (by kernel_rfl) (by kernel_rfl) (fun _ _ _ h => h) (Or.inl ⟨by rfl, ?_⟩) ?_
                        rotate_left
                        · intro w; go_simp
                          try with_reducible rfl
                        simp only [List.getElem_toArray, List.getElem_cons_zero, List.getElem_cons_succ, Act.put, List.setIfInBounds_toArray, List.set_cons_zero, List.set_cons_succ]
                        refine wpAny_take (i := 10) (v := ?_) rfl (by kernel_rfl) (by kernel_rfl) (by kernel_rfl) (fun _ _ _ h => h) (Or.inl ⟨by rfl, ?_⟩) ?_
                        rotate_left
                        · intro w; go_simp
                          try with_reducible rfl
                        simp only [List.getElem_toArray, List.getElem_cons_zero, List.getElem_cons_succ, Act.put, List.setIfInBounds_toArray, List.set_cons_zero, List.set_cons_succ]
                        refine wpAny_take (i := 7) (v := ?_) rfl (by kernel_rfl) (by kernel_rfl) (by kernel_rfl) (fun _ _ _ h => h) (Or.inl ⟨by rfl, ?_⟩) ?_
                        rotate_left
                        · intro w; go_simp
                          try with_reducible rfl
                        simp only [List.getElem_toArray, List.getElem_cons_zero, List.getElem_cons_succ, Act.put, List.setIfInBounds_toArray, List.set_cons_zero, List.set_cons_succ]
                        refine wpAny_take (i := 8) (v := ?_) rfl (by kernel_rfl) (by kernel_rfl) (by kernel_rfl) (fun _ _ _ h => h) (Or.inl ⟨by rfl, ?_⟩) ?_
                        rotate_left
                        · intro w; go_simp
                          try with_reducible rfl
                        simp only [List.getElem_toArray, List.getElem_cons_zero, List.getElem_cons_succ, Act.put, List.setIfInBounds_toArray, List.set_cons_zero, List.set_cons_succ]
                        refine wpAny_take (i := 9) (v := ?_) rfl (by kernel_rfl) (by kernel_rfl) (by kernel_rfl) (fun _ _ _ h => h) (Or.inl ⟨by rfl, ?_⟩) ?_
                        rotate_left
                        · intro w; go_simp
                          try with_reducible rfl
                        simp only [List.getElem_toArray, List.getElem_cons_zero, List.getElem_cons_succ, Act.put, List.setIfInBounds_toArray, List.set_cons_zero, List.set_cons_succ]
                        refine wpAny_ready (rs := [11]) (by kernel_rfl) (by simp) ?_
                        refine AllReady.cons rfl (fun K hK => ?_) AllReady.nil
                        go_simp
                        go_wp2_with (go_at_call 82; refine (H13.out _ ?_).mono ?_; exact HS3.out.drewN 1; rintro e w5 ⟨rfl, hs5⟩; have HS5 := Lib.hid hs5; clear hs5)
                        refine wpAny_take (i := 12) (v := ?_) rfl (by kernel_rfl) (by kernel_rfl) (by kernel_rfl) (fun _ _ _ h => h) (Or.inl ⟨by rfl, ?_⟩) ?_
                        rotate_left
                        · intro w; go_simp
                          try with_reducible rfl
                        simp only [List.getElem_toArray, List.getElem_cons_zero, List.getElem_cons_succ, Act.put, List.setIfInBounds_toArray, List.set_cons_zero, List.set_cons_succ]
                        refine wpAny_take (i := 13) (v := ?_) rfl (by kernel_rfl) (by kernel_rfl) (by kernel_rfl) (fun _ _ _ h => h) (Or.inl ⟨by rfl, ?_⟩) ?_
                        rotate_left
                        · intro w; go_simp
                          try with_reducible rfl
                        simp only [List.getElem_toArray, List.getElem_cons_zero, List.getElem_cons_succ, Act.put, List.setIfInBounds_toArray, List.set_cons_zero, List.set_cons_succ]
                        refine wpAny_take (i := 14) (v := ?_) rfl (by kernel_rfl) (by kernel_rfl) (by kernel_rfl) (fun _ _ _ h => h) (Or.inl ⟨by rfl, ?_⟩) ?_
                        rotate_left
                        · intro w; go_simp
                          try with_reducible rfl
                        simp only [List.getElem_toArray, List.getElem_cons_zero, List.getElem_cons_succ, Act.put, List.setIfInBounds_toArray, List.set_cons_zero, List.set_cons_succ]
                        refine wpAny_take (i := 18) (v := ?_) rfl (by kernel_rfl) (by kernel_rfl) (by kernel_rfl) (fun _ _ _ h => h) (Or.inl ⟨by rfl, ?_⟩) ?_
                        rotate_left
                        · intro w; go_simp
                          try with_reducible rfl
                        simp only [List.getElem_toArray, List.getElem_cons_zero, List.getElem_cons_succ, Act.put, List.setIfInBounds_toArray, List.set_cons_zero, List.set_cons_succ]
                        refine wpAny_take (i := 15) (v := ?_) rfl (by kernel_rfl) (by kernel_rfl) (by kernel_rfl) (fun _ _ _ h => h) (Or.inl ⟨by rfl, ?_⟩) ?_
                        rotate_left
                        · intro w; go_simp
                          try with_reducible rfl
                        simp only [List.getElem_toArray, List.getElem_cons_zero, List.getElem_cons_succ, Act.put, List.setIfInBounds_toArray, List.set_cons_zero, List.set_cons_succ]
                        refine wpAny_take (i := 16) (v := ?_) rfl (by kernel_rfl) (by kernel_rfl) (by kernel_rfl) (fun _ _ _ h => h) (Or.inl ⟨by rfl, ?_⟩) ?_
                        rotate_left
                        · intro w; go_simp
                          try with_reducible rfl
                        simp only [List.getElem_toArray, List.getElem_cons_zero, List.getElem_cons_succ, Act.put, List.setIfInBounds_toArray, List.set_cons_zero, List.set_cons_succ]
                        refine wpAny_take (i := 17) (v := ?_) rfl (by kernel_rfl) (by kernel_rfl) (by kernel_rfl) (fun _ _ _ h => h) (Or.inl ⟨by rfl, ?_⟩) ?_
                        rotate_left
                        · intro w; go_simp
                          try with_reducible rfl
                        simp only [List.getElem_toArray, List.getElem_cons_zero, List.getElem_cons_succ, Act.put, List.setIfInBounds_toArray, List.set_cons_zero, List.set_cons_succ]
                        refine wpAny_ready (rs := [19]) (by kernel_rfl) (by simp) ?_
                        refine AllReady.cons rfl (fun K hK => ?_) AllReady.nil
                        go_simp
                        go_wp2_with (go_at_call 82; refine (H10.out _ ?_).mono ?_; exact HS5.out; rintro e w6 ⟨rfl, hs6⟩; have HS6 := Lib.hid hs6; clear hs6)
                        refine wpAny_take (i := 20) (v := ?_) rfl (by kernel_rfl) (by kernel_rfl) (by kernel_rfl) (fun _ _ _ h => h) (Or.inl ⟨by rfl, ?_⟩) ?_
                        rotate_left
                        · intro w; go_simp
                          try with_reducible rfl
                        simp only [List.getElem_toArray, List.getElem_cons_zero, List.getElem_cons_succ, Act.put, List.setIfInBounds_toArray, List.set_cons_zero, List.set_cons_succ]
                        refine wpAny_take (i := 21) (v := ?_) rfl (by kernel_rfl) (by kernel_rfl) (by kernel_rfl) (fun _ _ _ h => h) (Or.inl ⟨by rfl, ?_⟩) ?_
                        rotate_left
                        · intro w; go_simp
                          try with_reducible rfl
                        simp only [List.getElem_toArray, List.getElem_cons_zero, List.getElem_cons_succ, Act.put, List.setIfInBounds_toArray, List.set_cons_zero, List.set_cons_succ]
                        refine wpAny_take (i := 22) (v := ?_) rfl (by kernel_rfl) (by kernel_rfl) (by kernel_rfl) (fun _ _ _ h => h) (Or.inl ⟨by rfl, ?_⟩) ?_
                        rotate_left
                        · intro w; go_simp
                          try with_reducible rfl
                        simp only [List.getElem_toArray, List.getElem_cons_zero, List.getElem_cons_succ, Act.put, List.setIfInBounds_toArray, List.set_cons_zero, List.set_cons_succ]
                        refine wpAny_take (i := 23) (v := ?_) rfl (by kernel_rfl) (by kernel_rfl) (by kernel_rfl) (fun _ _ _ h => h) (Or.inl ⟨by rfl, ?_⟩) ?_
                        rotate_left
                        · intro w; go_simp
                          try with_reducible rfl
                        simp only [List.getElem_toArray, List.getElem_cons_zero, List.getElem_cons_succ, Act.put, List.setIfInBounds_toArray, List.set_cons_zero, List.set_cons_succ]
                        refine wpAny_take (i := 24) (v := ?_) rfl (by kernel_rfl) (by kernel_rfl) (by kernel_rfl) (fun _ _ _ h => h) (Or.inl ⟨by rfl, ?_⟩) ?_
                        rotate_left
                        · intro w; go_simp
                          try with_reducible rfl
                        simp only [List.getElem_toArray, List.getElem_cons_zero, List.getElem_cons_succ, Act.put, List.setIfInBounds_toArray, List.set_cons_zero, List.set_cons_succ]
                        refine wpAny_take (i := 25) (v := ?_) rfl (by kernel_rfl) (by kernel_rfl) (by kernel_rfl) (fun _ _ _ h => h) (Or.inl ⟨by rfl, ?_⟩) ?_
                        rotate_left
                        · intro w; go_simp
                          try with_reducible rfl
                        simp only [List.getElem_toArray, List.getElem_cons_zero, List.getElem_cons_succ, Act.put, List.setIfInBounds_toArray, List.set_cons_zero, List.set_cons_succ]
                        refine wpAny_take (i := 26) (v := ?_) rfl (by kernel_rfl) (by kernel_rfl) (by kernel_rfl) (fun _ _ _ h => h) (Or.inl ⟨by rfl, ?_⟩) ?_
                        rotate_left
                        · intro w; go_simp
                          try with_reducible rfl
                        simp only [List.getElem_toArray, List.getElem_cons_zero, List.getElem_cons_succ, Act.put, List.setIfInBounds_toArray, List.set_cons_zero, List.set_cons_succ]
                        refine wpAny_take (i := 27) (v := ?_) rfl (by kernel_rfl) (by kernel_rfl) (by kernel_rfl) (fun _ _ _ h => h) (Or.inl ⟨by rfl, ?_⟩) ?_
                        rotate_left
                        · intro w; go_simp
                          try with_reducible rfl
                        simp only [List.getElem_toArray, List.getElem_cons_zero, List.getElem_cons_succ, Act.put, List.setIfInBounds_toArray, List.set_cons_zero, List.set_cons_succ]
                        refine wpAny_take (i := 28) (v := ?_) rfl (by kernel_rfl) (by kernel_rfl) (by kernel_rfl) (fun _ _ _ h => h) (Or.inl ⟨by rfl, ?_⟩) ?_
                        rotate_left
                        · intro w; go_simp
                          try with_reducible rfl
                        simp only [List.getElem_toArray, List.getElem_cons_zero, List.getElem_cons_succ, Act.put, List.setIfInBounds_toArray, List.set_cons_zero, List.set_cons_succ]
                        refine wpAny_take (i := 31) (v := ?_) rfl (by kernel_rfl) (by kernel_rfl) (by kernel_rfl) (fun _ _ _ h => h) (Or.inl ⟨by rfl, ?_⟩) ?_
                        rotate_left
                        · intro w; go_simp
                          try with_reducible rfl
                        simp only [List.getElem_toArray, List.getElem_cons_zero, List.getElem_cons_succ, Act.put, List.setIfInBounds_toArray, List.set_cons_zero, List.set_cons_succ]
                        refine wpAny_take (i := 32) (v := ?_) rfl (by kernel_rfl) (by kernel_rfl) (by kernel_rfl) (fun _ _ _ h => h) (Or.inl ⟨by rfl, ?_⟩) ?_
                        rotate_left
                        · intro w; go_simp
                          try with_reducible rfl
                        simp only [List.getElem_toArray, List.getElem_cons_zero, List.getElem_cons_succ, Act.put, List.setIfInBounds_toArray, List.set_cons_zero, List.set_cons_succ]
                        refine wpAny_take (i := 33) (v := ?_) rfl (by kernel_rfl) (by kernel_rfl) (by kernel_rfl) (fun _ _ _ h => h) (Or.inl ⟨by rfl, ?_⟩) ?_
                        rotate_left
                        · intro w; go_simp
                          try with_reducible rfl
                        simp only [List.getElem_toArray, List.getElem_cons_zero, List.getElem_cons_succ, Act.put, List.setIfInBounds_toArray, List.set_cons_zero, List.set_cons_succ]
                        refine wpAny_take (i := 34) (v := ?_) rfl (by kernel_rfl) (by kernel_rfl) (by kernel_rfl) (fun _ _ _ h => h) (Or.inl ⟨by rfl, ?_⟩) ?_
                        rotate_left
                        · intro w; go_simp
                          try with_reducible rfl
                        simp only [List.getElem_toArray, List.getElem_cons_zero, List.getElem_cons_succ, Act.put, List.setIfInBounds_toArray, List.set_cons_zero, List.set_cons_succ]
                        obtain ⟨c0, c1, c2, f1, f2⟩ := HS6.out.cells
                        refine wpAny_ready (rs := [29, 35]) (by kernel_rfl) (by simp) ?_
                        refine AllReady.cons rfl (fun K hK => ?_) (AllReady.cons rfl (fun K hK => ?_) AllReady.nil)
                        · go_simp
                          refine hK _ _ ?_
                          clear hK K
                          refine wpAny_take (i := 30) (v := ?_) rfl (by kernel_rfl) (by kernel_rfl) (by kernel_rfl) (fun _ _ _ h => h) (Or.inl ⟨by rfl, ?_⟩) ?_
                          rotate_left
                          · intro w; go_simp
                            try with_reducible rfl
                          simp only [List.getElem_toArray, List.getElem_cons_zero, List.getElem_cons_succ, Act.put, List.setIfInBounds_toArray, List.set_cons_zero, List.set_cons_succ]
                          refine wpAny_ready (rs := [35]) (by kernel_rfl) (by simp) ?_
                          refine AllReady.cons rfl (fun K hK => ?_) AllReady.nil
                          go_simp
                          refine hK _ _ ?_
                          clear hK K
                          refine wpAny_take (i := 36) (v := ?_) rfl (by kernel_rfl) (by kernel_rfl) (by kernel_rfl) (fun _ _ _ h => h) (Or.inl ⟨by rfl, ?_⟩) ?_
                          rotate_left
                          · intro w; go_simp
                            try with_reducible rfl
                          simp only [List.getElem_toArray, List.getElem_cons_zero, List.getElem_cons_succ, Act.put, List.setIfInBounds_toArray, List.set_cons_zero, List.set_cons_succ]
                          refine wpAny_take (i := 37) (v := ?_) rfl (by kernel_rfl) (by kernel_rfl) (by kernel_rfl) (fun _ _ _ h => h) (Or.inl ⟨by rfl, ?_⟩) ?_
                          rotate_left
                          · intro w; go_simp
                            try with_reducible rfl
                          simp only [List.getElem_toArray, List.getElem_cons_zero, List.getElem_cons_succ, Act.put, List.setIfInBounds_toArray, List.set_cons_zero, List.set_cons_succ]
                          refine wpAny_take (i := 38) (v := ?_) rfl (by kernel_rfl) (by kernel_rfl) (by kernel_rfl) (fun _ _ _ h => h) (Or.inl ⟨by rfl, ?_⟩) ?_
                          rotate_left
                          · intro w; go_simp
                            try with_reducible rfl
                          simp only [List.getElem_toArray, List.getElem_cons_zero, List.getElem_cons_succ, Act.put, List.setIfInBounds_toArray, List.set_cons_zero, List.set_cons_succ]
                          refine wpAny_done (by kernel_rfl) ?_ _
                          go_wp2_with fail
                          go_meet
                          exact ⟨rfl, HS6.out⟩
                        · go_simp
                          refine hK _ _ ?_
                          clear hK K
                          refine wpAny_ready (rs := [29]) (by kernel_rfl) (by simp) ?_
                          refine AllReady.cons rfl (fun K hK => ?_) AllReady.nil
                          go_simp
                          refine hK _ _ ?_
                          clear hK K
                          refine wpAny_take (i := 30) (v := ?_) rfl (by kernel_rfl) (by kernel_rfl) (by kernel_rfl) (fun _ _ _ h => h) (Or.inl ⟨by rfl, ?_⟩) ?_
                          rotate_left
                          · intro w; go_simp
                            try with_reducible rfl
                          simp only [List.getElem_toArray, List.getElem_cons_zero, List.getElem_cons_succ, Act.put, List.setIfInBounds_toArray, List.set_cons_zero, List.set_cons_succ]
                          refine wpAny_take (i := 36) (v := ?_) rfl (by kernel_rfl) (by kernel_rfl) (by kernel_rfl) (fun _ _ _ h => h) (Or.inl ⟨by rfl, ?_⟩) ?_
                          rotate_left
                          · intro w; go_simp
                            try with_reducible rfl
                          simp only [List.getElem_toArray, List.getElem_cons_zero, List.getElem_cons_succ, Act.put, List.setIfInBounds_toArray, List.set_cons_zero, List.set_cons_succ]
                          refine wpAny_take (i := 37) (v := ?_) rfl (by kernel_rfl) (by kernel_rfl) (by kernel_rfl) (fun _ _ _ h => h) (Or.inl ⟨by rfl, ?_⟩) ?_
                          rotate_left
                          · intro w; go_simp
                            try with_reducible rfl
                          simp only [List.getElem_toArray, List.getElem_cons_zero, List.getElem_cons_succ, Act.put, List.setIfInBounds_toArray, List.set_cons_zero, List.set_cons_succ]
                          refine wpAny_take (i := 38) (v := ?_) rfl (by kernel_rfl) (by kernel_rfl) (by kernel_rfl) (fun _ _ _ h => h) (Or.inl ⟨by rfl, ?_⟩) ?_
                          rotate_left
                          · intro w; go_simp
                            try with_reducible rfl
                          simp only [List.getElem_toArray, List.getElem_cons_zero, List.getElem_cons_succ, Act.put, List.setIfInBounds_toArray, List.set_cons_zero, List.set_cons_succ]
                          refine wpAny_done (by kernel_rfl) ?_ _
                          go_wp2_with fail
                          go_meet
                          exact ⟨rfl, HS6.out⟩
                        all_goals
                          go_wp2_with fail
                          go_meet
                          exact ⟨rfl, HS6.out⟩
                      case rest =>
                        obtain ⟨rfl, hst⟩ := hcut
                        have HST := Lib.hid hst
                        clear hst HS3 H13 H10
                        go_wp2_with fail
                        have hml : ((l.drop a3).take v).length = v := by rw [List.length_take, List.length_drop]; have := HN.out; omega
                        have HBM := Lib.hid ((HBY.out.from_if a3 c (by have := HN.out; omega)).upto v)
                        obtain ⟨mm, hmm⟩ : ∃ mm, (l.drop a3).take v = mm := ⟨_, rfl⟩
                        rw [hmm] at R HBM hml
                        have HML := Lib.hid hml
                        have q6 : (a3 : Int) + v ≤ c := by omega
                        clear hmm hml
                        go_cut [] (fun wx => ∃ out, St w0 wx g (some ⟨p, o, none⟩) n c (a3 : Int) out mm)
                        case first =>
                          obtain ⟨c0, c1, c2, f1, f2⟩ := HST.out.cells
                          obtain ⟨q1, q2, q3, q4, q5⟩ := Q.out
                          by_cases hca : c = a3
                          · have HCL : Hid (∀ W, St w0 W g (some ⟨p, o, none⟩) n c (a3 : Int) (.slice none 0 0) [] → Calls Tryd.prog 85 #[.slice (some ⟨p, o, none⟩) v 0] W (RetB W mm)) := Lib.hid (fun W hW => by
                              refine clone_any _ 0 v _ HML.out W ?_ (by rw [HML.out]; omega)
                              have h1 := (HBM.out.belowle hW.2.2 (Nat.le_refl _)).more (Nat.le_of_lt hW.1.lt)
                              rw [if_pos hca] at h1
                              exact h1)
                            subst hca
                            refine wp_region_any (by kernel_rfl) ?_
                            change wpAny _ _ _ _ _ _ _ (World.drew _)
                            refine wpAny_take (i := 0) (v := ?_) rfl (by kernel_rfl) (by kernel_rfl) (by kernel_rfl) (fun _ _ _ h => h) (Or.inl ⟨by rfl, ?_⟩) ?_
                            rotate_left
                            · intro w; go_simp
                              try with_reducible rfl
                            simp only [List.getElem_toArray, List.getElem_cons_zero, Act.put, List.setIfInBounds_toArray, List.set_cons_zero, List.set_cons_succ]
                            refine wpAny_take (i := 1) (v := ?_) rfl (by kernel_rfl) (by kernel_rfl) (by kernel_rfl) (fun _ _ _ h => h) (Or.inl ⟨by rfl, ?_⟩) ?_
                            rotate_left
                            · intro w; go_simp
                              try with_reducible rfl
                            simp only [List.getElem_toArray, List.getElem_cons_zero, List.getElem_cons_succ, Act.put, List.setIfInBounds_toArray, List.set_cons_zero, List.set_cons_succ]
                            refine wpAny_take (i := 2) (v := ?_) rfl (by kernel_rfl) (by kernel_rfl) (by kernel_rfl) (fun _ _ _ h => h) (Or.inl ⟨by rfl, ?_⟩) ?_
                            rotate_left
                            · intro w; go_simp
                              try with_reducible rfl
                            simp only [List.getElem_toArray, List.getElem_cons_zero, List.getElem_cons_succ, Act.put, List.setIfInBounds_toArray, List.set_cons_zero, List.set_cons_succ]
                            refine wpAny_take (i := 3) (v := ?_) rfl (by kernel_rfl) (by kernel_rfl) (by kernel_rfl) (fun _ _ _ h => h) (Or.inl ⟨by rfl, ?_⟩) ?_
                            rotate_left
                            · intro w; go_simp
                              try with_reducible rfl
                            simp only [List.getElem_toArray, List.getElem_cons_zero, List.getElem_cons_succ, Act.put, List.setIfInBounds_toArray, List.set_cons_zero, List.set_cons_succ]
                            refine wpAny_take (i := 4) (v := ?_) rfl (by kernel_rfl) (by kernel_rfl) (by kernel_rfl) (fun _ _ _ h => h) (Or.inl ⟨by rfl, ?_⟩) ?_
                            rotate_left
                            · intro w; go_simp
                              try with_reducible rfl
                            simp only [List.getElem_toArray, List.getElem_cons_zero, List.getElem_cons_succ, Act.put, List.setIfInBounds_toArray, List.set_cons_zero, List.set_cons_succ]
                            refine wpAny_take (i := 6) (v := ?_) rfl (by kernel_rfl) (by kernel_rfl) (by kernel_rfl) (fun _ _ _ h => h) (Or.inl ⟨by rfl, ?_⟩) ?_
                            rotate_left
                            · intro w; go_simp
                              try with_reducible rfl
                            simp only [List.getElem_toArray, List.getElem_cons_zero, List.getElem_cons_succ, Act.put, List.setIfInBounds_toArray, List.set_cons_zero, List.set_cons_succ]
                            refine wpAny_take (i := 7) (v := ?_) rfl (by kernel_rfl) (by kernel_rfl) (by kernel_rfl) (fun _ _ _ h => h) (Or.inl ⟨by rfl, ?_⟩) ?_
                            rotate_left
                            · intro w; go_simp
                              try with_reducible rfl
                            simp only [List.getElem_toArray, List.getElem_cons_zero, List.getElem_cons_succ, Act.put, List.setIfInBounds_toArray, List.set_cons_zero, List.set_cons_succ]
                            refine wpAny_take (i := 8) (v := ?_) rfl (by kernel_rfl) (by kernel_rfl) (by kernel_rfl) (fun _ _ _ h => h) (Or.inl ⟨by rfl, ?_⟩) ?_
                            rotate_left
                            · intro w; go_simp
                              try with_reducible rfl
                            simp only [List.getElem_toArray, List.getElem_cons_zero, List.getElem_cons_succ, Act.put, List.setIfInBounds_toArray, List.set_cons_zero, List.set_cons_succ]
                            refine wpAny_take (i := 9) (v := ?_) rfl (by kernel_rfl) (by kernel_rfl) (by kernel_rfl) (fun _ _ _ h => h) (Or.inl ⟨by rfl, ?_⟩) ?_
                            rotate_left
                            · intro w; go_simp
                              try with_reducible rfl
                            simp only [List.getElem_toArray, List.getElem_cons_zero, List.getElem_cons_succ, Act.put, List.setIfInBounds_toArray, List.set_cons_zero, List.set_cons_succ]
                            refine wpAny_take (i := 11) (v := ?_) rfl (by kernel_rfl) (by kernel_rfl) (by kernel_rfl) (fun _ _ _ h => h) (Or.inl ⟨by rfl, ?_⟩) ?_
                            rotate_left
                            · intro w; go_simp
                              try with_reducible rfl
                            simp only [List.getElem_toArray, List.getElem_cons_zero, List.getElem_cons_succ, Act.put, List.setIfInBounds_toArray, List.set_cons_zero, List.set_cons_succ]
                            refine wpAny_take (i := 12) (v := ?_) rfl (by kernel_rfl) (by kernel_rfl) (by kernel_rfl) (fun _ _ _ h => h) (Or.inl ⟨by rfl, ?_⟩) ?_
                            rotate_left
                            · intro w; go_simp
                              try with_reducible rfl
                            simp only [List.getElem_toArray, List.getElem_cons_zero, List.getElem_cons_succ, Act.put, List.setIfInBounds_toArray, List.set_cons_zero, List.set_cons_succ]
                            refine wpAny_take (i := 13) (v := ?_) rfl (by kernel_rfl) (by kernel_rfl) (by kernel_rfl) (fun _ _ _ h => h) (Or.inl ⟨by rfl, ?_⟩) ?_
                            rotate_left
                            · intro w; go_simp
                              try with_reducible rfl
                            simp only [List.getElem_toArray, List.getElem_cons_zero, List.getElem_cons_succ, Act.put, List.setIfInBounds_toArray, List.set_cons_zero, List.set_cons_succ]
                            refine wpAny_take (i := 14) (v := ?_) rfl (by kernel_rfl) (by kernel_rfl) (by kernel_rfl) (fun _ _ _ h => h) (Or.inl ⟨by rfl, ?_⟩) ?_
                            rotate_left
                            · intro w; go_simp
                              try with_reducible rfl
                            simp only [List.getElem_toArray, List.getElem_cons_zero, List.getElem_cons_succ, Act.put, List.setIfInBounds_toArray, List.set_cons_zero, List.set_cons_succ]
                            refine wpAny_take (i := 16) (v := ?_) rfl (by kernel_rfl) (by kernel_rfl) (by kernel_rfl) (fun _ _ _ h => h) (Or.inl ⟨by rfl, ?_⟩) ?_
                            rotate_left
                            · intro w; go_simp
                              try with_reducible rfl
                            simp only [List.getElem_toArray, List.getElem_cons_zero, List.getElem_cons_succ, Act.put, List.setIfInBounds_toArray, List.set_cons_zero, List.set_cons_succ]
                            refine wpAny_take (i := 17) (v := ?_) rfl (by kernel_rfl) (by kernel_rfl) (by kernel_rfl) (fun _ _ _ h => h) (Or.inl ⟨by rfl, ?_⟩) ?_
                            rotate_left
                            · intro w; go_simp
                              try with_reducible rfl
                            simp only [List.getElem_toArray, List.getElem_cons_zero, List.getElem_cons_succ, Act.put, List.setIfInBounds_toArray, List.set_cons_zero, List.set_cons_succ]
                            refine wpAny_ready (rs := [5, 10, 15]) (by kernel_rfl) (by simp) ?_
                            refine AllReady.cons rfl (fun K hK => ?_) (AllReady.cons rfl (fun K hK => ?_) (AllReady.cons rfl (fun K hK => ?_) AllReady.nil))
                            · go_simp
                              refine hK _ _ ?_
                              clear hK K
                              refine wpAny_ready (rs := [10, 15]) (by kernel_rfl) (by simp) ?_
                              refine AllReady.cons rfl (fun K hK => ?_) (AllReady.cons rfl (fun K hK => ?_) AllReady.nil)
                              · go_simp
                                refine hK _ _ ?_
                                clear hK K
                                refine wpAny_ready (rs := [15]) (by kernel_rfl) (by simp) ?_
                                refine AllReady.cons rfl (fun K hK => ?_) AllReady.nil
                                go_simp
                                refine hK _ _ ?_
                                clear hK K
                                refine wpAny_take (i := 18) (v := ?_) rfl (by kernel_rfl) (by kernel_rfl) (by kernel_rfl) (fun _ _ _ h => h) (Or.inl ⟨by rfl, ?_⟩) ?_
                                rotate_left
                                · intro w; go_simp
                                  try with_reducible rfl
                                simp only [List.getElem_toArray, List.getElem_cons_zero, List.getElem_cons_succ, Act.put, List.setIfInBounds_toArray, List.set_cons_zero, List.set_cons_succ]
                                refine wpAny_ready (rs := [19]) (by kernel_rfl) (by simp) ?_
                                refine AllReady.cons rfl (fun K hK => ?_) AllReady.nil
                                go_simp
                                refine hK _ _ ?_
                                clear hK K
                                refine wpAny_ready (rs := [20]) (by kernel_rfl) (by simp) ?_
                                refine AllReady.cons rfl (fun K hK => ?_) AllReady.nil
                                go_simp
                                go_wp2_with fail
                                refine (HCL.out _ ?_).mono ?_
                                · exact HST.out.drewN 1
                                rintro e w5 ⟨vv, rfl, hbuf, hb5⟩
                                have hs5 := (HST.out.drewN 1).below hb5
                                obtain ⟨d0, d1, d2, e1, e2⟩ := hs5.cells
                                have hbb : Buf w5 (g + 1) 1 vv mm.length (Lib.byteCells mm) := hbuf.mono (by have := (HST.out.drewN 1).1.lt; exact this)
                                have hput := hs5.put hbb
                                obtain ⟨p5, c5, rfl, -⟩ := hbuf.bys
                                have HP5 := Lib.hid hput
                                clear hbuf hb5 hs5 hput hbb
                                go_wp2_with fail
                                refine wpAny_take (i := 21) (v := ?_) rfl (by kernel_rfl) (by kernel_rfl) (by kernel_rfl) (fun _ _ _ h => h) (Or.inl ⟨by rfl, ?_⟩) ?_
                                rotate_left
                                · intro w; go_simp
                                  try with_reducible rfl
                                simp only [List.getElem_toArray, List.getElem_cons_zero, List.getElem_cons_succ, Act.put, List.setIfInBounds_toArray, List.set_cons_zero, List.set_cons_succ]
                                refine wpAny_take (i := 22) (v := ?_) rfl (by kernel_rfl) (by kernel_rfl) (by kernel_rfl) (fun _ _ _ h => h) (Or.inl ⟨by rfl, ?_⟩) ?_
                                rotate_left
                                · intro w; go_simp
                                  try with_reducible rfl
                                simp only [List.getElem_toArray, List.getElem_cons_zero, List.getElem_cons_succ, Act.put, List.setIfInBounds_toArray, List.set_cons_zero, List.set_cons_succ]
                                refine wpAny_ready (rs := [23]) (by kernel_rfl) (by simp) ?_
                                refine AllReady.cons rfl (fun K hK => ?_) AllReady.nil
                                go_simp
                                refine hK _ _ ?_
                                clear hK K
                                refine wpAny_done (by kernel_rfl) ?_ _
                                go_wp2_with fail
                                go_meet
                                exact ⟨_, HP5.out⟩
                              · go_simp
                                refine hK _ _ ?_
                                clear hK K
                                refine wpAny_take (i := 18) (v := ?_) rfl (by kernel_rfl) (by kernel_rfl) (by kernel_rfl) (fun _ _ _ h => h) (Or.inl ⟨by rfl, ?_⟩) ?_
                                rotate_left
                                · intro w; go_simp
                                  try with_reducible rfl
                                simp only [List.getElem_toArray, List.getElem_cons_zero, List.getElem_cons_succ, Act.put, List.setIfInBounds_toArray, List.set_cons_zero, List.set_cons_succ]
                                refine wpAny_ready (rs := [10]) (by kernel_rfl) (by simp) ?_
                                refine AllReady.cons rfl (fun K hK => ?_) AllReady.nil
                                go_simp
                                refine hK _ _ ?_
                                clear hK K
                                refine wpAny_ready (rs := [19]) (by kernel_rfl) (by simp) ?_
                                refine AllReady.cons rfl (fun K hK => ?_) AllReady.nil
                                go_simp
                                refine hK _ _ ?_
                                clear hK K
                                refine wpAny_ready (rs := [20]) (by kernel_rfl) (by simp) ?_
                                refine AllReady.cons rfl (fun K hK => ?_) AllReady.nil
                                go_simp
                                go_wp2_with fail
                                refine (HCL.out _ ?_).mono ?_
                                · exact HST.out.drewN 1
                                rintro e w5 ⟨vv, rfl, hbuf, hb5⟩
                                have hs5 := (HST.out.drewN 1).below hb5
                                obtain ⟨d0, d1, d2, e1, e2⟩ := hs5.cells
                                have hbb : Buf w5 (g + 1) 1 vv mm.length (Lib.byteCells mm) := hbuf.mono (by have := (HST.out.drewN 1).1.lt; exact this)
                                have hput := hs5.put hbb
                                obtain ⟨p5, c5, rfl, -⟩ := hbuf.bys
                                have HP5 := Lib.hid hput
                                clear hbuf hb5 hs5 hput hbb
                                go_wp2_with fail
                                refine wpAny_take (i := 21) (v := ?_) rfl (by kernel_rfl) (by kernel_rfl) (by kernel_rfl) (fun _ _ _ h => h) (Or.inl ⟨by rfl, ?_⟩) ?_
                                rotate_left
                                · intro w; go_simp
                                  try with_reducible rfl
                                simp only [List.getElem_toArray, List.getElem_cons_zero, List.getElem_cons_succ, Act.put, List.setIfInBounds_toArray, List.set_cons_zero, List.set_cons_succ]
                                refine wpAny_take (i := 22) (v := ?_) rfl (by kernel_rfl) (by kernel_rfl) (by kernel_rfl) (fun _ _ _ h => h) (Or.inl ⟨by rfl, ?_⟩) ?_
                                rotate_left
                                · intro w; go_simp
                                  try with_reducible rfl
                                simp only [List.getElem_toArray, List.getElem_cons_zero, List.getElem_cons_succ, Act.put, List.setIfInBounds_toArray, List.set_cons_zero, List.set_cons_succ]
                                refine wpAny_ready (rs := [23]) (by kernel_rfl) (by simp) ?_
                                refine AllReady.cons rfl (fun K hK => ?_) AllReady.nil
                                go_simp
                                refine hK _ _ ?_
                                clear hK K
                                refine wpAny_done (by kernel_rfl) ?_ _
                                go_wp2_with fail
                                go_meet
                                exact ⟨_, HP5.out⟩
                            · go_simp
                              refine hK _ _ ?_
                              clear hK K
                              refine wpAny_ready (rs := [5, 15]) (by kernel_rfl) (by simp) ?_
                              refine AllReady.cons rfl (fun K hK => ?_) (AllReady.cons rfl (fun K hK => ?_) AllReady.nil)
                              · go_simp
                                refine hK _ _ ?_
                                clear hK K
                                refine wpAny_ready (rs := [15]) (by kernel_rfl) (by simp) ?_
                                refine AllReady.cons rfl (fun K hK => ?_) AllReady.nil
                                go_simp
                                refine hK _ _ ?_
                                clear hK K
                                refine wpAny_take (i := 18) (v := ?_) rfl (by kernel_rfl) (by kernel_rfl) (by kernel_rfl) (fun _ _ _ h => h) (Or.inl ⟨by rfl, ?_⟩) ?_
                                rotate_left
                                · intro w; go_simp
                                  try with_reducible rfl
                                simp only [List.getElem_toArray, List.getElem_cons_zero, List.getElem_cons_succ, Act.put, List.setIfInBounds_toArray, List.set_cons_zero, List.set_cons_succ]
                                refine wpAny_ready (rs := [19]) (by kernel_rfl) (by simp) ?_
                                refine AllReady.cons rfl (fun K hK => ?_) AllReady.nil
                                go_simp
                                refine hK _ _ ?_
                                clear hK K
                                refine wpAny_ready (rs := [20]) (by kernel_rfl) (by simp) ?_
                                refine AllReady.cons rfl (fun K hK => ?_) AllReady.nil
                                go_simp
                                go_wp2_with fail
                                refine (HCL.out _ ?_).mono ?_
                                · exact HST.out.drewN 1
                                rintro e w5 ⟨vv, rfl, hbuf, hb5⟩
                                have hs5 := (HST.out.drewN 1).below hb5
                                obtain ⟨d0, d1, d2, e1, e2⟩ := hs5.cells
                                have hbb : Buf w5 (g + 1) 1 vv mm.length (Lib.byteCells mm) := hbuf.mono (by have := (HST.out.drewN 1).1.lt; exact this)
                                have hput := hs5.put hbb
                                obtain ⟨p5, c5, rfl, -⟩ := hbuf.bys
                                have HP5 := Lib.hid hput
                                clear hbuf hb5 hs5 hput hbb
                                go_wp2_with fail
                                refine wpAny_take (i := 21) (v := ?_) rfl (by kernel_rfl) (by kernel_rfl) (by kernel_rfl) (fun _ _ _ h => h) (Or.inl ⟨by rfl, ?_⟩) ?_
                                rotate_left
                                · intro w; go_simp
                                  try with_reducible rfl
                                simp only [List.getElem_toArray, List.getElem_cons_zero, List.getElem_cons_succ, Act.put, List.setIfInBounds_toArray, List.set_cons_zero, List.set_cons_succ]
                                refine wpAny_take (i := 22) (v := ?_) rfl (by kernel_rfl) (by kernel_rfl) (by kernel_rfl) (fun _ _ _ h => h) (Or.inl ⟨by rfl, ?_⟩) ?_
                                rotate_left
                                · intro w; go_simp
                                  try with_reducible rfl
                                simp only [List.getElem_toArray, List.getElem_cons_zero, List.getElem_cons_succ, Act.put, List.setIfInBounds_toArray, List.set_cons_zero, List.set_cons_succ]
                                refine wpAny_ready (rs := [23]) (by kernel_rfl) (by simp) ?_
                                refine AllReady.cons rfl (fun K hK => ?_) AllReady.nil
                                go_simp
                                refine hK _ _ ?_
                                clear hK K
                                refine wpAny_done (by kernel_rfl) ?_ _
                                go_wp2_with fail
                                go_meet
                                exact ⟨_, HP5.out⟩
                              · go_simp
                                refine hK _ _ ?_
                                clear hK K
                                refine wpAny_take (i := 18) (v := ?_) rfl (by kernel_rfl) (by kernel_rfl) (by kernel_rfl) (fun _ _ _ h => h) (Or.inl ⟨by rfl, ?_⟩) ?_
                                rotate_left
                                · intro w; go_simp
                                  try with_reducible rfl
                                simp only [List.getElem_toArray, List.getElem_cons_zero, List.getElem_cons_succ, Act.put, List.setIfInBounds_toArray, List.set_cons_zero, List.set_cons_succ]
                                refine wpAny_ready (rs := [5]) (by kernel_rfl) (by simp) ?_
                                refine AllReady.cons rfl (fun K hK => ?_) AllReady.nil
                                go_simp
                                refine hK _ _ ?_
                                clear hK K
                                refine wpAny_ready (rs := [19]) (by kernel_rfl) (by simp) ?_
                                refine AllReady.cons rfl (fun K hK => ?_) AllReady.nil
                                go_simp
                                refine hK _ _ ?_
                                clear hK K
                                refine wpAny_ready (rs := [20]) (by kernel_rfl) (by simp) ?_
                                refine AllReady.cons rfl (fun K hK => ?_) AllReady.nil
                                go_simp
                                go_wp2_with fail
                                refine (HCL.out _ ?_).mono ?_
                                · exact HST.out.drewN 1
                                rintro e w5 ⟨vv, rfl, hbuf, hb5⟩
                                have hs5 := (HST.out.drewN 1).below hb5
                                obtain ⟨d0, d1, d2, e1, e2⟩ := hs5.cells
                                have hbb : Buf w5 (g + 1) 1 vv mm.length (Lib.byteCells mm) := hbuf.mono (by have := (HST.out.drewN 1).1.lt; exact this)
                                have hput := hs5.put hbb
                                obtain ⟨p5, c5, rfl, -⟩ := hbuf.bys
                                have HP5 := Lib.hid hput
                                clear hbuf hb5 hs5 hput hbb
                                go_wp2_with fail
                                refine wpAny_take (i := 21) (v := ?_) rfl (by kernel_rfl) (by kernel_rfl) (by kernel_rfl) (fun _ _ _ h => h) (Or.inl ⟨by rfl, ?_⟩) ?_
                                rotate_left
                                · intro w; go_simp
                                  try with_reducible rfl
                                simp only [List.getElem_toArray, List.getElem_cons_zero, List.getElem_cons_succ, Act.put, List.setIfInBounds_toArray, List.set_cons_zero, List.set_cons_succ]
                                refine wpAny_take (i := 22) (v := ?_) rfl (by kernel_rfl) (by kernel_rfl) (by kernel_rfl) (fun _ _ _ h => h) (Or.inl ⟨by rfl, ?_⟩) ?_
                                rotate_left
                                · intro w; go_simp
                                  try with_reducible rfl
                                simp only [List.getElem_toArray, List.getElem_cons_zero, List.getElem_cons_succ, Act.put, List.setIfInBounds_toArray, List.set_cons_zero, List.set_cons_succ]
                                refine wpAny_ready (rs := [23]) (by kernel_rfl) (by simp) ?_
                                refine AllReady.cons rfl (fun K hK => ?_) AllReady.nil
                                go_simp
                                refine hK _ _ ?_
                                clear hK K
                                refine wpAny_done (by kernel_rfl) ?_ _
                                go_wp2_with fail
                                go_meet
                                exact ⟨_, HP5.out⟩
                            · go_simp
                              refine hK _ _ ?_
                              clear hK K
                              refine wpAny_take (i := 18) (v := ?_) rfl (by kernel_rfl) (by kernel_rfl) (by kernel_rfl) (fun _ _ _ h => h) (Or.inl ⟨by rfl, ?_⟩) ?_
                              rotate_left
                              · intro w; go_simp
                                try with_reducible rfl
                              simp only [List.getElem_toArray, List.getElem_cons_zero, List.getElem_cons_succ, Act.put, List.setIfInBounds_toArray, List.set_cons_zero, List.set_cons_succ]
                              refine wpAny_ready (rs := [5, 10]) (by kernel_rfl) (by simp) ?_
                              refine AllReady.cons rfl (fun K hK => ?_) (AllReady.cons rfl (fun K hK => ?_) AllReady.nil)
                              · go_simp
                                refine hK _ _ ?_
                                clear hK K
                                refine wpAny_ready (rs := [10]) (by kernel_rfl) (by simp) ?_
                                refine AllReady.cons rfl (fun K hK => ?_) AllReady.nil
                                go_simp
                                refine hK _ _ ?_
                                clear hK K
                                refine wpAny_ready (rs := [19]) (by kernel_rfl) (by simp) ?_
                                refine AllReady.cons rfl (fun K hK => ?_) AllReady.nil
                                go_simp
                                refine hK _ _ ?_
                                clear hK K
                                refine wpAny_ready (rs := [20]) (by kernel_rfl) (by simp) ?_
                                refine AllReady.cons rfl (fun K hK => ?_) AllReady.nil
                                go_simp
                                go_wp2_with fail
                                refine (HCL.out _ ?_).mono ?_
                                · exact HST.out.drewN 1
                                rintro e w5 ⟨vv, rfl, hbuf, hb5⟩
                                have hs5 := (HST.out.drewN 1).below hb5
                                obtain ⟨d0, d1, d2, e1, e2⟩ := hs5.cells
                                have hbb : Buf w5 (g + 1) 1 vv mm.length (Lib.byteCells mm) := hbuf.mono (by have := (HST.out.drewN 1).1.lt; exact this)
                                have hput := hs5.put hbb
                                obtain ⟨p5, c5, rfl, -⟩ := hbuf.bys
                                have HP5 := Lib.hid hput
                                clear hbuf hb5 hs5 hput hbb
                                go_wp2_with fail
                                refine wpAny_take (i := 21) (v := ?_) rfl (by kernel_rfl) (by kernel_rfl) (by kernel_rfl) (fun _ _ _ h => h) (Or.inl ⟨by rfl, ?_⟩) ?_
                                rotate_left
                                · intro w; go_simp
                                  try with_reducible rfl
                                simp only [List.getElem_toArray, List.getElem_cons_zero, List.getElem_cons_succ, Act.put, List.setIfInBounds_toArray, List.set_cons_zero, List.set_cons_succ]
                                refine wpAny_take (i := 22) (v := ?_) rfl (by kernel_rfl) (by kernel_rfl) (by kernel_rfl) (fun _ _ _ h => h) (Or.inl ⟨by rfl, ?_⟩) ?_
                                rotate_left
                                · intro w; go_simp
                                  try with_reducible rfl
                                simp only [List.getElem_toArray, List.getElem_cons_zero, List.getElem_cons_succ, Act.put, List.setIfInBounds_toArray, List.set_cons_zero, List.set_cons_succ]
                                refine wpAny_ready (rs := [23]) (by kernel_rfl) (by simp) ?_
                                refine AllReady.cons rfl (fun K hK => ?_) AllReady.nil
                                go_simp
                                refine hK _ _ ?_
                                clear hK K
                                refine wpAny_done (by kernel_rfl) ?_ _
                                go_wp2_with fail
                                go_meet
                                exact ⟨_, HP5.out⟩
                              · go_simp
                                refine hK _ _ ?_
                                clear hK K
                                refine wpAny_ready (rs := [5]) (by kernel_rfl) (by simp) ?_
                                refine AllReady.cons rfl (fun K hK => ?_) AllReady.nil
                                go_simp
                                refine hK _ _ ?_
                                clear hK K
                                refine wpAny_ready (rs := [19]) (by kernel_rfl) (by simp) ?_
                                refine AllReady.cons rfl (fun K hK => ?_) AllReady.nil
                                go_simp
                                refine hK _ _ ?_
                                clear hK K
                                refine wpAny_ready (rs := [20]) (by kernel_rfl) (by simp) ?_
                                refine AllReady.cons rfl (fun K hK => ?_) AllReady.nil
                                go_simp
                                go_wp2_with fail
                                refine (HCL.out _ ?_).mono ?_
                                · exact HST.out.drewN 1
                                rintro e w5 ⟨vv, rfl, hbuf, hb5⟩
                                have hs5 := (HST.out.drewN 1).below hb5
                                obtain ⟨d0, d1, d2, e1, e2⟩ := hs5.cells
                                have hbb : Buf w5 (g + 1) 1 vv mm.length (Lib.byteCells mm) := hbuf.mono (by have := (HST.out.drewN 1).1.lt; exact this)
                                have hput := hs5.put hbb
                                obtain ⟨p5, c5, rfl, -⟩ := hbuf.bys
                                have HP5 := Lib.hid hput
                                clear hbuf hb5 hs5 hput hbb
                                go_wp2_with fail
                                refine wpAny_take (i := 21) (v := ?_) rfl (by kernel_rfl) (by kernel_rfl) (by kernel_rfl) (fun _ _ _ h => h) (Or.inl ⟨by rfl, ?_⟩) ?_
                                rotate_left
                                · intro w; go_simp
                                  try with_reducible rfl
                                simp only [List.getElem_toArray, List.getElem_cons_zero, List.getElem_cons_succ, Act.put, List.setIfInBounds_toArray, List.set_cons_zero, List.set_cons_succ]
                                refine wpAny_take (i := 22) (v := ?_) rfl (by kernel_rfl) (by kernel_rfl) (by kernel_rfl) (fun _ _ _ h => h) (Or.inl ⟨by rfl, ?_⟩) ?_
                                rotate_left
                                · intro w; go_simp
                                  try with_reducible rfl
                                simp only [List.getElem_toArray, List.getElem_cons_zero, List.getElem_cons_succ, Act.put, List.setIfInBounds_toArray, List.set_cons_zero, List.set_cons_succ]
                                refine wpAny_ready (rs := [23]) (by kernel_rfl) (by simp) ?_
                                refine AllReady.cons rfl (fun K hK => ?_) AllReady.nil
                                go_simp
                                refine hK _ _ ?_
                                clear hK K
                                refine wpAny_done (by kernel_rfl) ?_ _
                                go_wp2_with fail
                                go_meet
                                exact ⟨_, HP5.out⟩
                          · exact absurd (HSEL2.out) (by rw [if_neg (fun e => hca (by rw [e, HA3.out]))]; decide)
                        case rest =>
                          obtain ⟨out, hst⟩ := hcut
                          obtain ⟨c0, c1, c2, f1, f2⟩ := hst.cells
                          have HS9 := Lib.hid hst
                          clear hst
                          go_wp2_with fail
                          go_ret
                          rw [R.out]
                          refine ⟨rfl, out, ?_⟩
                          have := HS9.out.take (w' := wc.setCell ⟨g, 1, none⟩ (.int .i64 ((a3 : Int) + v))) (i := 0) rfl
                          rw [show ((a3 : Int) + v) = ((a3 + v : Nat) : Int) by omega] at this
                          exact this
                    · exact absurd (HSEL.out rfl) (by rw [if_pos hv, if_pos h13, if_pos h10, if_neg (by have := HN.out; have := HA3.out; omega)]; decide)
                  · exact absurd (HSEL.out rfl) (by rw [if_pos hv, if_pos h13, if_neg h10]; decide)
                · exact absurd (HSEL.out rfl) (by rw [if_pos hv, if_neg h13]; decide)
              · exact absurd (HSEL.out rfl) (by rw [if_neg hv]; decide)
    · exact absurd (h123 k rfl hk) e123
end Go.Proofs.YtkifhgnoadmfkaaDoor
