/- The walk of the scanner's method quoted. -/
import Derived.Test.YthoccgkkgnlbpaaDoorScan1
import Derived.Test.YthoccgkkgnlbpaaDoorQ1
namespace Go.Proofs.YthoccgkkgnlbpaaDoor
open Go.RowKit

abbrev SqAt (l m : List UInt8) (k : Nat) (o : Option (List UInt8 × Nat)) : Prop := o = (sq (l.drop k)).map fun x => (m ++ x.1, k + x.2)
section
variable {l m : List UInt8} {k : Nat} {o : Option (List UInt8 × Nat)}
theorem SqAt.out (h : SqAt l m k o) (hk : l.length ≤ k) : o = none := by
  rw [h, List.drop_of_length_le hk]; rfl
theorem SqAt.mark (h : SqAt l m k o) (hk : k < l.length) (e : l[k] = 34) : o = some (m, k + 1) := by
  rw [h, List.drop_eq_getElem_cons hk, e]; unfold sq; simp
theorem SqAt.escOut (h : SqAt l m k o) (hk : k < l.length) (e : l[k] = 92) (h1 : l.length ≤ k + 1) : o = none := by
  rw [h, List.drop_eq_getElem_cons hk, e, List.drop_of_length_le h1]; rfl
theorem SqAt.escBad (h : SqAt l m k o) (hk : k < l.length) (e : l[k] = 92) (h1 : k + 1 < l.length) (hd : ¬ (l[k + 1] = 34 ∨ l[k + 1] = 92)) : o = none := by
  rw [h, List.drop_eq_getElem_cons hk, e, List.drop_eq_getElem_cons h1]
  generalize l[k + 1] = d at hd
  unfold sq
  simp only [show ¬ ((92 : UInt8) = 34) by decide, if_false, if_true, if_neg hd]
  rfl
theorem SqAt.esc (h : SqAt l m k o) (hk : k < l.length) (e : l[k] = 92) (h1 : k + 1 < l.length) (hd : l[k + 1] = 34 ∨ l[k + 1] = 92) : SqAt l (m ++ [l[k + 1]]) (k + 2) o := by
  unfold SqAt
  rw [h, List.drop_eq_getElem_cons hk, e, List.drop_eq_getElem_cons h1]
  generalize l[k + 1] = d at hd
  conv => lhs; unfold sq
  simp only [show ¬ ((92 : UInt8) = 34) by decide, if_false, if_true, if_pos hd]
  unfold consQ
  rw [Option.map_map, show k + 1 + 1 = k + 2 from rfl]
  congr 1
  funext x
  simp [Nat.add_assoc, Nat.add_comm 2]
theorem SqAt.bad (h : SqAt l m k o) (hk : k < l.length) (e1 : l[k] ≠ 34) (e2 : l[k] ≠ 92) (ht : textB (l[k].toNat : Int) = false) : o = none := by
  rw [h, List.drop_eq_getElem_cons hk]
  generalize l[k] = d at *
  unfold sq
  rw [if_neg e1, if_neg e2, if_neg (by rw [ht]; simp)]; rfl
theorem SqAt.next (h : SqAt l m k o) (hk : k < l.length) (e1 : l[k] ≠ 34) (e2 : l[k] ≠ 92) (ht : textB (l[k].toNat : Int) = true) : SqAt l (m ++ [l[k]]) (k + 1) o := by
  unfold SqAt
  rw [h, List.drop_eq_getElem_cons hk]
  generalize l[k] = d at *
  conv => lhs; unfold sq
  rw [if_neg e1, if_neg e2, if_pos ht]
  unfold consQ
  rw [Option.map_map]
  congr 1
  funext x
  simp [Nat.add_assoc, Nat.add_comm 1]
end
theorem scanQ_no (l : List UInt8) (a : Int) (h : a < 0 ∨ (l.length : Int) ≤ a) : scanQ l a = none := by
  unfold scanQ; rw [if_neg (by omega)]
theorem scanQ_bad (l : List UInt8) (k : Nat) (hk : k < l.length) (h : l[k] ≠ 34) : scanQ l k = none := by
  unfold scanQ
  rw [if_neg]
  rintro ⟨_, _, e⟩
  rw [Int.toNat_natCast, List.getElem?_eq_getElem hk] at e
  exact h (by injection e)
theorem scanQ_at (l : List UInt8) (k : Nat) (hk : k < l.length) (h : l[k] = 34) : SqAt l [] (k + 1) (scanQ l k) := by
  unfold scanQ
  rw [if_pos ⟨by omega, by omega, by rw [Int.toNat_natCast, List.getElem?_eq_getElem hk, h]⟩, Int.toNat_natCast]
  rfl
theorem u8_ne {x : UInt8} {v : Nat} (hv : v < 256) (h : x ≠ UInt8.ofNat v) : ((x.toNat : Int) == (v : Int)) = false := by
  rw [beq_eq_false_iff_ne]
  intro e
  apply h
  apply UInt8.toNat_inj.1
  rw [UInt8.toNat_ofNat']
  omega

set_option maxRecDepth 100000 in
set_option maxHeartbeats 3200000 in
theorem sQuoted_any (w0 : World) (g : Nat) (P : Option Addr) (l : List UInt8) (c : Nat) (a : Int) (w : World) (h : St w0 w g P l.length c a (.slice none 0 0) []) (hb : Bys w0 g P l) (hl : l.length ≤ 1048576) :
    Calls Tryd.prog 37 #[.pointer (some ⟨g, 0, none⟩)] w (ScanPost w0 g P l.length c (scanQ l a)) := by
  by_cases ha : a < 0 ∨ (l.length : Int) ≤ a
  · rw [scanQ_no l a ha]
    have HI := Lib.hid (is_no g P l.length c a 34 _ w h.1 ha)
    have HB := Lib.hid h.2.2
    clear h hb ha hl
    go_enter Tryd.func37, Tryd.ntmps37
    go_wp2_with fail
    refine HI.out.mono ?_
    rintro e w1 ⟨rfl, i, rfl⟩
    go_wp2_with fail
    go_ret
    exact ⟨rfl, YthoccgkkgnlbpaaDoor.Below.many HB.out i⟩
  · obtain ⟨k, rfl⟩ := Int.eq_ofNat_of_zero_le (show 0 ≤ a by omega)
    have hk : k < l.length := by omega
    obtain ⟨p, o, rfl, hp, hc⟩ := hb (by omega)
    have hcw : ∀ w', Below g w0 w' → ∀ i (hi : i < l.length), w'.cell? ⟨p, o + i, none⟩ = some (.int .u8 (l[i].toNat : Int)) := fun w' hw i hi => by rw [hw.cell (p := ⟨p, o + i, none⟩) hp]; exact hc i hi
    have HCW := Lib.hid hcw
    have hpg : p ≠ g := by omega
    by_cases e34 : l[k] = 34
    · have HI := Lib.hid (is_yes g p o l.length c k _ 34 true _ w h.1 hk hl (hcw w h.2.2 k hk) hpg (by rw [e34]; rfl))
      have HO := Lib.hid (scanQ_at l k hk e34)
      generalize scanQ l k = r at HO ⊢
      have HS := Lib.hid h
      clear hcw hc hb h ha e34
      have HL := Lib.hid (show True from trivial)
      go_enter Tryd.func37, Tryd.ntmps37
      go_wp2_with fail
      refine HI.out.mono ?_
      rintro e w1 ⟨rfl, i, hi⟩
      have h1 := HS.out.take hi
      rw [show ((k : Int) + 1) = ((k + 1 : Nat) : Int) by omega] at h1
      clear hi HI HS
      go_wp2_with fail
      go_loopw [3] (fun _ wr => ∃ (j : Nat) (m : List UInt8) (out : Value), j ≤ l.length ∧ m.length ≤ j ∧ St w0 wr g (some ⟨p, o, none⟩) l.length c (j : Int) out m ∧ SqAt l m j r) (fun _ wr => l.length - curAt wr g)
      case atStart => exact ⟨k + 1, [], _, by omega, by simp, h1, HO.out⟩
      case round =>
        obtain ⟨j, m, out, hj, hm, hst, hsq⟩ := hrel
        have HSTJ := Lib.hid hst
        have HSQJ := Lib.hid hsq
        have CUR := Lib.hid hst.cur
        clear hsq
        by_cases hjl : j < l.length
        · have HT := Lib.hid (take_yes g p o l.length c j _ out wr hst.1 hjl hl (HCW.out wr hst.2.2 j hjl) hpg)
          clear hst h1
          obtain ⟨x, hx⟩ : ∃ x, l[j] = x := ⟨_, rfl⟩
          have HX := Lib.hid hx
          rw [hx] at HT
          have hu := x.toNat_lt
          clear hx
          by_cases q34 : x = 34
          · have R := Lib.hid (HSQJ.out.mark hjl (by rw [HX.out, q34]))
            have e1 : (x.toNat : Int) = 34 := by rw [q34]; rfl
            rw [e1] at HT
            clear e1 q34 hu
            go_wp2_with fail
            refine HT.out.mono ?_
            rintro e w2 ⟨rfl, i, hi⟩
            have st2 := Lib.hid (HSTJ.out.take hi)
            clear hi
            go_wp2_with fail
            go_ret
            rw [R.out]
            exact ⟨rfl, _, st2.out⟩
          · have e1 := u8_ne (v := 34) (by decide) q34
            have e1' : ((x.toNat : Int) == 34) = false := e1
            clear e1
            by_cases q92 : x = 92
            · by_cases hj1 : j + 1 < l.length
              · obtain ⟨d, hd⟩ : ∃ d, l[j + 1] = d := ⟨_, rfl⟩
                have HD := Lib.hid hd
                clear hd
                have e2 : (x.toNat : Int) = 92 := by rw [q92]; rfl
                rw [e2] at HT
                have hdu := d.toNat_lt
                clear e1' e2 hu
                by_cases hdd : d = 34 ∨ d = 92
                · have HSQ0 := HSQJ.out.esc hjl (by rw [HX.out, q92]) hj1 (by rw [HD.out]; exact hdd)
                  rw [HD.out] at HSQ0
                  have HSQ := Lib.hid HSQ0
                  have htx : textB (d.toNat : Int) = true := by rcases hdd with rfl | rfl <;> decide
                  clear HSQ0 q92 q34
                  have hdv : (((d.toNat : Int) != 34) = false ∧ (d.toNat : Int) = 34) ∨ (((d.toNat : Int) != 34) = true ∧ ((d.toNat : Int) != 92) = false) := by rcases hdd with rfl | rfl <;> decide
                  clear hdd
                  rcases hdv with ⟨b1, -⟩ | ⟨b1, b2⟩
                  all_goals
                    go_wp2_with fail
                    refine HT.out.mono ?_
                    rintro e w2 ⟨rfl, i, hi⟩
                    have st2 := HSTJ.out.take hi
                    rw [show ((j : Int) + 1) = ((j + 1 : Nat) : Int) by omega] at st2
                    have HT2 := Lib.hid (take_yes g p o l.length c (j + 1) _ out w2 st2.1 hj1 hl (HCW.out w2 st2.2.2 (j + 1) hj1) hpg)
                    rw [HD.out] at HT2
                    have ST2 := Lib.hid st2
                    clear hi st2
                    go_wp2_with fail
                    refine HT2.out.mono ?_
                    rintro e w3 ⟨rfl, i2, hi2⟩
                    have st3 := ST2.out.take hi2
                    rw [show (((j + 1 : Nat) : Int) + 1) = ((j + 2 : Nat) : Int) by omega] at st3
                    have ST3 := Lib.hid st3
                    have HTX := Lib.hid (text_val (d.toNat : Int) true w3 htx (by omega) (by omega))
                    clear hi2
                    go_wp2_with fail
                    refine HTX.out.mono ?_
                    rintro e w3' ⟨rfl, rfl⟩
                    have c2 : w3'.cell? ⟨g, 2, none⟩ = some out := by rw [st3.1.cell]; rfl
                    obtain ⟨v4, w4, hrun, hst4, hfz, hcell⟩ := st3.app d (by omega)
                    obtain ⟨p4, n4, c4, rfl⟩ := hst4.shape
                    have HR := Lib.hid hrun
                    have HST := Lib.hid hst4
                    clear hrun hst4 st3
                    go_wp2_with (at_builtin; refine wpList_append_run _ rfl (.tmp 50) (.tmp 52) _ _ rfl _ _ rfl rfl _ _ HR.out ?_)
                    go_roundw
                    case rel => exact ⟨(j + 2), m ++ [d], _, by omega, by rw [List.length_append]; show m.length + 1 ≤ _; omega, HST.out, HSQ.out⟩
                    case measure => rw [CUR.out, St.cur (k := (j + 2)) HST.out]; omega
                · have R := Lib.hid (HSQJ.out.escBad hjl (by rw [HX.out, q92]) hj1 (by rw [HD.out]; exact hdd))
                  have b1 : ((d.toNat : Int) != 34) = true := by
                    have := u8_ne (v := 34) (by decide) (fun e => hdd (.inl e))
                    simpa [bne] using this
                  have b2 : ((d.toNat : Int) != 92) = true := by
                    have := u8_ne (v := 92) (by decide) (fun e => hdd (.inr e))
                    simpa [bne] using this
                  clear q92 q34 hdd
                  go_wp2_with fail
                  refine HT.out.mono ?_
                  rintro e w2 ⟨rfl, i, hi⟩
                  have st2 := HSTJ.out.take hi
                  rw [show ((j : Int) + 1) = ((j + 1 : Nat) : Int) by omega] at st2
                  have HT2 := Lib.hid (take_yes g p o l.length c (j + 1) _ out w2 st2.1 hj1 hl (HCW.out w2 st2.2.2 (j + 1) hj1) hpg)
                  rw [HD.out] at HT2
                  have ST2 := Lib.hid st2
                  clear hi st2
                  go_wp2_with fail
                  refine HT2.out.mono ?_
                  rintro e w3 ⟨rfl, i2, hi2⟩
                  have ST3 := Lib.hid (ST2.out.take hi2)
                  clear hi2
                  go_wp2_with fail
                  go_ret
                  rw [R.out]
                  exact ⟨rfl, ST3.out.2.2⟩
              · have R := Lib.hid (HSQJ.out.escOut hjl (by rw [HX.out, q92]) (by omega))
                have e2 : (x.toNat : Int) = 92 := by rw [q92]; rfl
                rw [e2] at HT
                clear e1' e2 hu q92 q34
                go_wp2_with fail
                refine HT.out.mono ?_
                rintro e w2 ⟨rfl, i, hi⟩
                have st2 := HSTJ.out.take hi
                have HT2 := Lib.hid (take_no g _ l.length c _ out w2 st2.1 (.inr (by omega)))
                have ST2 := Lib.hid st2
                clear hi st2
                go_wp2_with fail
                refine HT2.out.mono ?_
                rintro e w3 ⟨rfl, i2, rfl⟩
                go_wp2_with fail
                go_ret
                rw [R.out]
                exact ⟨rfl, YthoccgkkgnlbpaaDoor.Below.many ST2.out.2.2 i2⟩
            · have e2 : ((x.toNat : Int) == 92) = false := u8_ne (v := 92) (by decide) q92
              cases htx : textB (x.toNat : Int) with
              | false =>
                have R := Lib.hid (HSQJ.out.bad hjl (by rw [HX.out]; exact q34) (by rw [HX.out]; exact q92) (by rw [HX.out]; exact htx))
                clear q92 q34
                go_wp2_with fail
                refine HT.out.mono ?_
                rintro e w2 ⟨rfl, i, hi⟩
                have st2 := HSTJ.out.take hi
                have ST2 := Lib.hid st2
                have HTX := Lib.hid (text_val (x.toNat : Int) false w2 htx (by omega) (by omega))
                clear hi st2
                go_wp2_with fail
                refine HTX.out.mono ?_
                rintro e w3 ⟨rfl, rfl⟩
                go_wp2_with fail
                go_ret
                rw [R.out]
                exact ⟨rfl, ST2.out.2.2⟩
              | true =>
                have HSQ0 := HSQJ.out.next hjl (by rw [HX.out]; exact q34) (by rw [HX.out]; exact q92) (by rw [HX.out]; exact htx)
                rw [HX.out] at HSQ0
                have HSQ := Lib.hid HSQ0
                clear HSQ0 q92 q34
                go_wp2_with fail
                refine HT.out.mono ?_
                rintro e w3 ⟨rfl, i, hi⟩
                have st3 := HSTJ.out.take hi
                rw [show ((j : Int) + 1) = ((j + 1 : Nat) : Int) by omega] at st3
                have HTX := Lib.hid (text_val (x.toNat : Int) true w3 htx (by omega) (by omega))
                clear hi
                have ST3 := Lib.hid st3
                go_wp2_with fail
                refine HTX.out.mono ?_
                rintro e w3' ⟨rfl, rfl⟩
                have c2 : w3'.cell? ⟨g, 2, none⟩ = some out := by rw [st3.1.cell]; rfl
                obtain ⟨v4, w4, hrun, hst4, hfz, hcell⟩ := st3.app x (by omega)
                obtain ⟨p4, n4, c4, rfl⟩ := hst4.shape
                have HR := Lib.hid hrun
                have HST := Lib.hid hst4
                clear hrun hst4 st3
                go_wp2_with (at_builtin; refine wpList_append_run _ rfl (.tmp 50) (.tmp 52) _ _ rfl _ _ rfl rfl _ _ HR.out ?_)
                go_roundw
                case rel => exact ⟨(j + 1), m ++ [x], _, by omega, by rw [List.length_append]; show m.length + 1 ≤ _; omega, HST.out, HSQ.out⟩
                case measure => rw [CUR.out, St.cur (k := (j + 1)) HST.out]; omega
        · have R := Lib.hid (HSQJ.out.out (by omega))
          have HT := Lib.hid (take_no g _ l.length c _ out wr hst.1 (.inr (by omega)))
          have ST2 := Lib.hid hst
          clear hst h1
          go_wp2_with fail
          refine HT.out.mono ?_
          rintro e w3 ⟨rfl, i2, rfl⟩
          go_wp2_with fail
          go_ret
          rw [R.out]
          exact ⟨rfl, YthoccgkkgnlbpaaDoor.Below.many ST2.out.2.2 i2⟩
    · rw [scanQ_bad l k hk e34]
      have HI := Lib.hid (is_yes g p o l.length c k _ 34 false _ w h.1 hk hl (hcw w h.2.2 k hk) hpg (u8_ne (v := 34) (by decide) e34))
      have HS := Lib.hid h
      clear hcw hc hb h ha e34
      go_enter Tryd.func37, Tryd.ntmps37
      go_wp2_with fail
      refine HI.out.mono ?_
      rintro e w1 ⟨rfl, i, hi⟩
      have h1 := Lib.hid (HS.out.take hi)
      clear hi
      go_wp2_with fail
      go_ret
      exact ⟨rfl, h1.out.2.2⟩
end Go.Proofs.YthoccgkkgnlbpaaDoor
