/- The walk of the reference of package quote: Announced. -/
import Derived.Test.YthoccgkkgnlbpaaDoorAnn
namespace Go.Proofs.YthoccgkkgnlbpaaDoor
open Go.RowKit

theorem digStart_zero {m : List UInt8} (h : m.all digitB = true) : digStart m = 0 := by
  cases m with
  | nil => rfl
  | cons x m => unfold digStart; rw [if_pos h]
theorem digStart_at {m : List UInt8} {j : Nat} (hj : j < m.length) (h : (m.drop (j + 1)).all digitB = true) (hn : digitB m[j] = false) : digStart m = j + 1 := by
  have e : m = m.take j ++ m[j] :: m.drop (j + 1) := by
    rw [← List.drop_eq_getElem_cons hj, List.take_append_drop]
  have := digStart_mk h (m.take j) m[j] hn
  rw [← e, List.length_take, Nat.min_eq_left (by omega)] at this
  exact this
theorem annR_not (l : List UInt8) (h : ¬ l.getLast? = some 125) : annR l = none := by unfold annR; rw [if_neg h]
theorem annR_none (l : List UInt8) (h : l.getLast? = some 125) (k : Nat) (hk : digStart l.dropLast = k) (hn : numB (l.dropLast.drop k) = none) : annR l = none := by
  unfold annR; rw [if_pos h, hk, hn]
theorem annR_some (l : List UInt8) (h : l.getLast? = some 125) (k : Nat) (hk : digStart l.dropLast = k) (x : Nat) (hn : numB (l.dropLast.drop k) = some x) : annR l = if 0 < k ∧ l.dropLast[k - 1]? = some 123 then some x else none := by
  unfold annR; rw [if_pos h, hk, hn]
theorem last_get {l : List UInt8} (h : 0 < l.length) : l.getLast? = some (l[l.length - 1]'(by omega)) := by
  rw [List.getLast?_eq_getElem?, List.getElem?_eq_getElem]

set_option maxRecDepth 100000 in
theorem rAnn_empty (p : Option Addr) (cap : Nat) (w : World) :
    Calls Tryd.prog 11 #[.slice p 0 cap] w fun e w' => e = .returned (.tuple #[.int .i64 0, .bool false]) ∧ w' = w := by
  go_enter Tryd.func11, Tryd.ntmps11
  go_wp2_with fail
  go_ret2
  exact ⟨rfl, rfl⟩

set_option maxRecDepth 100000 in
set_option maxHeartbeats 1600000 in
theorem rAnnounced_any (p : Option Addr) (cap : Nat) (l : List UInt8) (w : World) (h : Bys w w.heap.size p l) (hl : l.length ≤ 1048576) (hcap : l.length ≤ cap) :
    Calls Tryd.prog 11 #[.slice p l.length cap] w fun e w' => e = .returned (annV (annR l)) ∧ w' = w := by
  by_cases h0 : 0 < l.length
  · obtain ⟨n, hn⟩ : ∃ n, l.length = n + 1 := ⟨l.length - 1, by omega⟩
    obtain ⟨b, off, rfl, hbl, hc⟩ := h h0
    have hlast := last_get h0
    have hm : l.dropLast.length = n := by rw [List.length_dropLast]; omega
    have hcl : w.cell? ⟨b, off + n, none⟩ = some (.int .u8 (l[n].toNat : Int)) := hc n (by omega)
    have hcm : ∀ j, j < n → ∃ x, (l.dropLast)[j]? = some x ∧ w.cell? ⟨b, off + j, none⟩ = some (.int .u8 (x.toNat : Int)) := fun j hj =>
      ⟨l[j]'(by omega), by rw [List.getElem?_dropLast, if_pos (by omega), List.getElem?_eq_getElem], hc j (by omega)⟩
    clear hc
    by_cases hx : l.getLast? = some 125
    · have hx' : l[n] = 125 := by
        rw [hlast] at hx; injection hx with hx
        rw [← hx]; congr 1; omega
      rw [hx'] at hcl
      have hdl := dropLast_bys h
      have HA := Lib.hid (annR_none l hx)
      have HB := Lib.hid (annR_some l hx)
      generalize annR l = o at *
      generalize l.dropLast = m at hdl HA HB hcm hm
      have HC := Lib.hid hcm
      have HM := Lib.hid hm
      have HD := Lib.hid hdl
      clear hx hx' hlast hdl hcm h hm
      rw [hn]
      have hn1 : n + 1 ≤ 1048576 := by omega
      have hn2 : n + 1 ≤ cap := by omega
      clear hn hl hcap h0
      have hc0 : (0 : Int) ≤ n := by omega
      go_enter Tryd.func11, Tryd.ntmps11
      go_wp2_with fail
      go_loop [5] (fun i => ∃ k : Nat, k ≤ n ∧ i = .int .i64 (k : Int) ∧ (m.drop k).all digitB = true) (fun i => (intOf i).toNat)
      case atStart => exact ⟨n, Nat.le_refl _, by go_num, by rw [List.drop_of_length_le (by rw [HM.out]; exact Nat.le_refl _)]; rfl⟩
      case round =>
        obtain ⟨k, hk, rfl, ha⟩ := hrel
        have A := Lib.hid ha
        clear ha
        by_cases h0 : 0 < k
        · obtain ⟨k, rfl⟩ : ∃ j, k = j + 1 := ⟨k - 1, by omega⟩
          obtain ⟨x, hmx, hce⟩ := HC.out k (by omega)
          have HX := Lib.hid hmx
          clear hmx
          have hu := x.toNat_lt
          have hk0 : (0 : Int) ≤ k := by omega
          have hk1 : (k : Int) < n + 1 := by omega
          by_cases h1 : 48 ≤ x.toNat
          · by_cases h2 : x.toNat ≤ 57
            · have HA2 : Hid ((m.drop k).all digitB = true) := Lib.hid (by
                obtain ⟨hj, e⟩ := List.getElem?_eq_some_iff.1 HX.out
                rw [List.drop_eq_getElem_cons hj, List.all_cons, A.out, e]
                simp [digitB, h1, h2])
              go_wp2_with fail
              go_round
              case rel => exact ⟨k, by omega, by go_num, HA2.out⟩
              case measure => simp [intOf]
            · have hds : digStart m = k + 1 := by
                obtain ⟨hj, e⟩ := List.getElem?_eq_some_iff.1 HX.out
                exact digStart_at hj A.out (by rw [e]; simp [digitB, h2])
              have hcut := HD.out.from (k + 1)
              have hcl2 : (m.drop (k + 1)).length = n - (k + 1) := by rw [List.length_drop, HM.out]
              have hcv := fun c => conv_bys (P := Tryd.prog) hcut c Tryd.underlying22 Tryd.underlying5 Tryd.underlying9
              rw [hcl2, Option.map_some, Go.WideShapes.add_plain] at hcv
              have HCV := Lib.hid hcv
              have H57 := Lib.hid (rNumber_any (ofL (m.drop (k + 1))) w (by show (m.drop (k + 1)).toArray.size ≤ _; rw [List.size_toArray, hcl2]; unfold maxLen; omega))
              rw [ofL_data] at H57
              have e0 : ((k : Int) + 1 == 0) = false := by rw [beq_eq_false_iff_ne]; omega
              clear hcut hcv hcl2
              cases hnb : numB (m.drop (k + 1)) with
              | none =>
                have R := Lib.hid (HA.out _ hds hnb)
                simp only [hnb, numV_none] at H57
                clear hnb hds
                go_wp2_with fail
                rw [HCV.out]
                simp only [Result.andThen]
                rw [Oper.upon_value]
                go_wp2_with fail
                refine H57.out.mono ?_
                rintro e w2 ⟨rfl, rfl⟩
                go_wp2_with fail
                go_ret2
                exact ⟨by rw [R.out]; rfl, rfl⟩
              | some v =>
                have hv := numB_le hnb
                have hB := HB.out _ hds v hnb
                rw [Nat.add_sub_cancel, HX.out] at hB
                simp only [hnb, numV_some] at H57
                by_cases h123 : x = 123
                · have R : Hid (o = some v) := Lib.hid (by rw [hB, if_pos ⟨Nat.succ_pos _, by rw [h123]⟩])
                  have e1 : (x.toNat : Int) = 123 := by rw [h123]; rfl
                  rw [e1] at hce
                  clear hnb hds hB h123 e1 hu h1
                  go_wp2_with fail
                  rw [HCV.out]
                  simp only [Result.andThen]
                  rw [Oper.upon_value]
                  go_wp2_with fail
                  refine H57.out.mono ?_
                  rintro e w2 ⟨rfl, rfl⟩
                  go_wp2_with fail
                  go_ret2
                  exact ⟨by rw [R.out]; rfl, rfl⟩
                · have R : Hid (o = none) := Lib.hid (by rw [hB, if_neg (fun h => h123 (by injection h.2))])
                  have e1 : ((x.toNat : Int) != 123) = true := by
                    rw [bne_iff_ne]; intro e; exact h123 (UInt8.toNat_inj.1 (by show x.toNat = 123; omega))
                  clear hnb hds hB h123
                  go_wp2_with fail
                  rw [HCV.out]
                  simp only [Result.andThen]
                  rw [Oper.upon_value]
                  go_wp2_with fail
                  refine H57.out.mono ?_
                  rintro e w2 ⟨rfl, rfl⟩
                  go_wp2_with fail
                  go_ret2
                  exact ⟨by rw [R.out]; rfl, rfl⟩
          · have hds : digStart m = k + 1 := by
              obtain ⟨hj, e⟩ := List.getElem?_eq_some_iff.1 HX.out
              exact digStart_at hj A.out (by rw [e]; simp [digitB, h1])
            have hcut := HD.out.from (k + 1)
            have hcl2 : (m.drop (k + 1)).length = n - (k + 1) := by rw [List.length_drop, HM.out]
            have hcv := fun c => conv_bys (P := Tryd.prog) hcut c Tryd.underlying22 Tryd.underlying5 Tryd.underlying9
            rw [hcl2, Option.map_some, Go.WideShapes.add_plain] at hcv
            have HCV := Lib.hid hcv
            have H57 := Lib.hid (rNumber_any (ofL (m.drop (k + 1))) w (by show (m.drop (k + 1)).toArray.size ≤ _; rw [List.size_toArray, hcl2]; unfold maxLen; omega))
            rw [ofL_data] at H57
            have e0 : ((k : Int) + 1 == 0) = false := by rw [beq_eq_false_iff_ne]; omega
            clear hcut hcv hcl2
            cases hnb : numB (m.drop (k + 1)) with
            | none =>
              have R := Lib.hid (HA.out _ hds hnb)
              simp only [hnb, numV_none] at H57
              clear hnb hds
              go_wp2_with fail
              rw [HCV.out]
              simp only [Result.andThen]
              rw [Oper.upon_value]
              go_wp2_with fail
              refine H57.out.mono ?_
              rintro e w2 ⟨rfl, rfl⟩
              go_wp2_with fail
              go_ret2
              exact ⟨by rw [R.out]; rfl, rfl⟩
            | some v =>
              have hv := numB_le hnb
              have hB := HB.out _ hds v hnb
              rw [Nat.add_sub_cancel, HX.out] at hB
              simp only [hnb, numV_some] at H57
              by_cases h123 : x = 123
              · have R : Hid (o = some v) := Lib.hid (by rw [hB, if_pos ⟨Nat.succ_pos _, by rw [h123]⟩])
                have e1 : (x.toNat : Int) = 123 := by rw [h123]; rfl
                rw [e1] at hce
                clear hnb hds hB h123 e1 hu h1
                go_wp2_with fail
                rw [HCV.out]
                simp only [Result.andThen]
                rw [Oper.upon_value]
                go_wp2_with fail
                refine H57.out.mono ?_
                rintro e w2 ⟨rfl, rfl⟩
                go_wp2_with fail
                go_ret2
                exact ⟨by rw [R.out]; rfl, rfl⟩
              · have R : Hid (o = none) := Lib.hid (by rw [hB, if_neg (fun h => h123 (by injection h.2))])
                have e1 : ((x.toNat : Int) != 123) = true := by
                  rw [bne_iff_ne]; intro e; exact h123 (UInt8.toNat_inj.1 (by show x.toNat = 123; omega))
                clear hnb hds hB h123
                go_wp2_with fail
                rw [HCV.out]
                simp only [Result.andThen]
                rw [Oper.upon_value]
                go_wp2_with fail
                refine H57.out.mono ?_
                rintro e w2 ⟨rfl, rfl⟩
                go_wp2_with fail
                go_ret2
                exact ⟨by rw [R.out]; rfl, rfl⟩
        · obtain rfl : k = 0 := by omega
          have hds : digStart m = 0 := digStart_zero A.out
          have hcv := fun c => conv_bys (P := Tryd.prog) HD.out c Tryd.underlying22 Tryd.underlying5 Tryd.underlying9
          rw [HM.out] at hcv
          have HCV := Lib.hid hcv
          have H57 := Lib.hid (rNumber_any (ofL m) w (by show m.toArray.size ≤ _; rw [List.size_toArray, HM.out]; unfold maxLen; omega))
          rw [ofL_data] at H57
          clear hcv
          have R : Hid (o = none) := Lib.hid (by
            cases hnb : numB (m.drop 0) with
            | none => exact HA.out _ hds hnb
            | some v => rw [HB.out _ hds v hnb, if_neg (by omega)])
          cases hnb : numB m
          all_goals
            simp only [hnb, numV_none, numV_some] at H57
            clear hnb hds
            go_wp2_with fail
            rw [HCV.out]
            simp only [Result.andThen]
            rw [Oper.upon_value]
            go_wp2_with fail
            refine H57.out.mono ?_
            rintro e w2 ⟨rfl, rfl⟩
            go_wp2_with fail
            go_ret2
            exact ⟨by rw [R.out]; rfl, rfl⟩
    · have R := Lib.hid (annR_not l hx)
      have hx' : l[n] ≠ 125 := by
        intro e
        apply hx
        rw [hlast, ← e]; congr 2; omega
      have e1 : ((l[n].toNat : Int) != 125) = true := by
        rw [bne_iff_ne]; intro e; exact hx' (UInt8.toNat_inj.1 (by show l[n].toNat = 125; omega))
      generalize annR l = o at *
      generalize l[n] = x at hcl e1
      rw [hn]
      clear hx hx' hlast hcm h hm
      have hn1 : n + 1 ≤ 1048576 := by omega
      clear hn hl hcap h0
      have hc0 : (0 : Int) ≤ n := by omega
      have hc1 : (n : Int) < n + 1 := by omega
      go_enter Tryd.func11, Tryd.ntmps11
      go_wp2_with fail
      go_ret2
      exact ⟨by rw [R.out]; rfl, rfl⟩
  · obtain rfl : l = [] := List.eq_nil_of_length_eq_zero (by omega)
    exact rAnn_empty p cap w
end Go.Proofs.YthoccgkkgnlbpaaDoor
