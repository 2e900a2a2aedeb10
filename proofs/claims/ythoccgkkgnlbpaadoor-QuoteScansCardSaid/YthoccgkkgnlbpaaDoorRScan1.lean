/- The walk of the reference's ScanQuoted. -/
import Derived.Test.YthoccgkkgnlbpaaDoorScan3
import Derived.Test.YthoccgkkgnlbpaaDoorQ2
namespace Go.Proofs.YthoccgkkgnlbpaaDoor
open Go.RowKit

theorem buf_app {w0 w : World} {out : Value} {m : List UInt8} (h2 : Buf w w0.heap.size 1 out m.length (Lib.byteCells m)) (h3 : Below w0.heap.size w0 w) (y : UInt8) (hm : m.length ≤ 1048576) :
    ∃ v' w', (Builtin.append_ #[22, 22] 22 #[out, .slice (some ⟨w.heap.size, 0, none⟩) 1 1]).run Tryd.prog (w.alloc (.cells #[.int .u8 (y.toNat : Int)] 5)) = .ok v' w' ∧ Buf w' w0.heap.size 1 v' (m ++ [y]).length (Lib.byteCells (m ++ [y])) ∧ Below w0.heap.size w0 w' := by
  have hb0 : Below w.heap.size w (w.alloc (.cells #[.int .u8 (y.toNat : Int)] 5)) := (Below.refl _ _).alloc (Nat.le_refl _) _
  have hh := heap_alloc_new w (.cells #[.int .u8 (y.toNat : Int)] 5)
  obtain ⟨i0, hi, hz0, hz1, hz2⟩ := info_parts infoU8
  have hsrc : Src (w.alloc (.cells #[.int .u8 (y.toNat : Int)] 5)) 1 (some ⟨w.heap.size, 0, none⟩) 1 (Lib.byteCells [y]) :=
    ⟨rfl, Lib.byteCells_one [y], fun _ => ⟨_, rfl, fun j u hj => by
      have hj' : j < 1 := by have := (List.getElem?_eq_some_iff.1 hj).1; simpa [Lib.byteCells] using this
      obtain rfl : j = 0 := by omega
      rw [Go.WideShapes.add_plain]
      simp only [World.cell?, hh]
      exact hj⟩⟩
  have h2' := h2.below hb0 (Nat.le_refl _)
  obtain ⟨v', w', hrun, hbuf, hgr, hown⟩ := run_append_buf (P := Tryd.prog) _ 22 22 5 i0 (.int .u8 0) 1 1 Tryd.underlying22 hi hz0 hz1 hz2 rfl (by decide) w0.heap.size out m.length _ h2' (some ⟨w.heap.size, 0, none⟩) 1 1 _ hsrc (by unfold maxLen; omega) (by omega) (by have := h3.size; have := hb0.size; omega)
  rw [← byteCells_app] at hbuf
  have hs := h3.size
  have hs0 := hb0.size
  refine ⟨v', w', hrun, by rw [show (m ++ [y]).length = m.length + 1 by simp]; exact hbuf, (h3.trans (hb0.mono hs)).grown hgr (by omega) (fun j hj => ?_)⟩
  rcases h2.2 with ⟨rfl, _⟩ | ⟨b, off, cap, rfl, hb, _⟩
  · simp [Value.ownBlock] at hj
  · simp only [Value.ownBlock, Option.some.injEq] at hj; omega

set_option maxRecDepth 100000 in
set_option maxHeartbeats 3200000 in
theorem rScanQuoted_any (P : Option Addr) (l : List UInt8) (c : Nat) (a : Int) (w : World) (hb : Bys w w.heap.size P l) (hl : l.length ≤ 1048576) :
    Calls Tryd.prog 21 #[.slice P l.length c, .int .i64 a] w (RetS w (scanQ l a)) := by
  by_cases ha : a < 0 ∨ (l.length : Int) ≤ a
  · rw [scanQ_no l a ha]
    generalize l.length = n at *
    clear hb hl
    by_cases ha0 : a < 0
    all_goals
      first
        | (have ha1 : ¬ a < 0 := ha0; have ha2 : (n : Int) ≤ a := by omega)
        | skip
      clear ha
      go_enter Tryd.func21, Tryd.ntmps21
      go_wp2_with fail
      go_ret3
      exact RetS.none (Below.refl _ _)
  · obtain ⟨k, rfl⟩ := Int.eq_ofNat_of_zero_le (show 0 ≤ a by omega)
    have hk : k < l.length := by omega
    obtain ⟨p, o, rfl, hp, hc⟩ := hb (by omega)
    have hcw : ∀ w', Below w.heap.size w w' → ∀ i (hi : i < l.length), w'.cell? ⟨p, o + i, none⟩ = some (.int .u8 (l[i].toNat : Int)) := fun w' hw i hi => by rw [hw.cell (p := ⟨p, o + i, none⟩) hp]; exact hc i hi
    have HCW := Lib.hid hcw
    have ck := hcw w (Below.refl _ _) k hk
    have hk0 : (0 : Int) ≤ k := by omega
    have hk1 : (k : Int) < l.length := by omega
    have hk2 : (l.length : Int) ≤ 1048576 := by omega
    by_cases e34 : l[k] = 34
    · have HO := Lib.hid (scanQ_at l k hk e34)
      rw [e34] at ck
      have ck' : w.cell? ⟨p, o + k, none⟩ = some (.int .u8 34) := ck
      generalize scanQ l k = r at HO ⊢
      obtain ⟨n, hn⟩ : ∃ n, n = l.length := ⟨_, rfl⟩
      have HN := Lib.hid hn
      rw [← hn] at hk hk1 hk2 ⊢
      have hkd0 : decide ((k : Int) < 0) = false := decide_eq_false (by omega)
      have hkd1 : decide ((n : Int) ≤ (k : Int)) = false := decide_eq_false (by omega)
      have hkd2 : decide (n ≤ k) = false := decide_eq_false (by omega)
      clear hcw hc hb ha e34 ck hn hl
      go_enter Tryd.func21, Tryd.ntmps21
      go_wp2_with fail
      go_loopw [7, 8] (fun out i wr => ∃ (j : Nat) (m : List UInt8), j ≤ n ∧ m.length ≤ j ∧ i = .int .i64 (j : Int) ∧ Buf wr w.heap.size 1 out m.length (Lib.byteCells m) ∧ Below w.heap.size w wr ∧ SqAt l m j r) (fun _ i _ => n - (intOf i).toNat)
      case atStart => exact ⟨k + 1, [], by omega, by simp, by go_num, Buf.nil _ _ _, Below.refl _ _, HO.out⟩
      case round =>
        obtain ⟨j, m, hj, hm, rfl, hbuf, hbw, hsq⟩ := hrel
        have HBUF := Lib.hid hbuf
        have HBW := Lib.hid hbw
        have HSQJ := Lib.hid hsq
        have HMJ := Lib.hid hm
        clear hsq hbuf hm ck' hk hk0 hk1
        have hj0 : (0 : Int) ≤ j := by omega
        have hjb : (j : Int) ≤ n := by omega
        by_cases hjl : j < l.length
        · have hjn : (j : Int) < n := by have := HN.out; omega
          have cj := HCW.out wr hbw j hjl
          clear hbw
          obtain ⟨x, hx⟩ : ∃ x, l[j] = x := ⟨_, rfl⟩
          have HX := Lib.hid hx
          rw [hx] at cj
          have hu := x.toNat_lt
          clear hx
          by_cases q34 : x = 34
          · have R := Lib.hid (HSQJ.out.mark hjl (by rw [HX.out, q34]))
            have e1 : (x.toNat : Int) = 34 := by rw [q34]; rfl
            rw [e1] at cj
            clear e1 q34 hu
            go_wp2_with fail
            go_ret3
            rw [R.out]
            exact RetS.some HBUF.out HBW.out
          · have e1 : ((x.toNat : Int) != 34) = true := by
              have := u8_ne (v := 34) (by decide) q34
              simpa [bne] using this
            by_cases q92 : x = 92
            · have e2 : (x.toNat : Int) = 92 := by rw [q92]; rfl
              rw [e2] at cj
              clear e1 hu
              by_cases hj1 : j + 1 < l.length
              · have hjn1 : (j : Int) + 1 < n := by have := HN.out; omega
                have cd := HCW.out wr HBW.out (j + 1) hj1
                have cd' : wr.cell? ⟨p, o + j + 1, none⟩ = _ := cd
                obtain ⟨d, hd⟩ : ∃ d, l[j + 1] = d := ⟨_, rfl⟩
                have HD := Lib.hid hd
                rw [hd] at cd cd'
                have hdu := d.toNat_lt
                clear hd
                by_cases hdd : d = 34 ∨ d = 92
                · have HSQ0 := HSQJ.out.esc hjl (by rw [HX.out, q92]) hj1 (by rw [HD.out]; exact hdd)
                  rw [HD.out] at HSQ0
                  have HSQ := Lib.hid HSQ0
                  have HTX : Hid (Calls Tryd.prog 32 #[.int .u8 (d.toNat : Int)] wr fun e w' => e = .returned (.bool true) ∧ w' = wr) := Lib.hid (rText_val (d.toNat : Int) true wr (by rcases hdd with rfl | rfl <;> decide) (by omega) (by omega))
                  clear HSQ0 q92 q34
                  have hdv : (((d.toNat : Int) != 34) = false ∧ (d.toNat : Int) = 34) ∨ (((d.toNat : Int) != 34) = true ∧ ((d.toNat : Int) != 92) = false) := by rcases hdd with rfl | rfl <;> decide
                  clear hdd
                  rcases hdv with ⟨b1, -⟩ | ⟨b1, b2⟩
                  all_goals
                    go_wp2_with fail
                    refine HTX.out.mono ?_
                    rintro e w3 ⟨rfl, rfl⟩
                    have hcw3 : True := trivial
                    obtain ⟨v4, w4, hrun, hbuf4, hbw4⟩ := buf_app HBUF.out HBW.out d (by have := HMJ.out; omega)
                    have HR := Lib.hid hrun
                    have HB4 := Lib.hid (And.intro hbuf4 hbw4)
                    clear hrun hbuf4 hbw4
                    go_wp2_with (at_builtin; refine wpList_append_run _ rfl (.tmp 68) (.tmp 73) _ _ rfl _ _ rfl rfl _ _ HR.out ?_)
                    go_roundw
                    case rel => exact ⟨(j + 2), m ++ [d], by omega, by rw [List.length_append]; show m.length + 1 ≤ _; have := HMJ.out; omega, by go_num, HB4.out.1, HB4.out.2, HSQ.out⟩
                    case measure => simp [intOf]; omega
                · have R := Lib.hid (HSQJ.out.escBad hjl (by rw [HX.out, q92]) hj1 (by rw [HD.out]; exact hdd))
                  have b1 : ((d.toNat : Int) != 34) = true := by
                    have := u8_ne (v := 34) (by decide) (fun e => hdd (.inl e))
                    simpa [bne] using this
                  have b2 : ((d.toNat : Int) != 92) = true := by
                    have := u8_ne (v := 92) (by decide) (fun e => hdd (.inr e))
                    simpa [bne] using this
                  clear q92 q34 hdd
                  go_wp2_with fail
                  go_ret3
                  rw [R.out]
                  exact RetS.none HBW.out
              · have R := Lib.hid (HSQJ.out.escOut hjl (by rw [HX.out, q92]) (by omega))
                have hjn1 : (n : Int) ≤ (j : Int) + 1 := by have := HN.out; omega
                clear q92 q34
                go_wp2_with fail
                go_ret3
                rw [R.out]
                exact RetS.none HBW.out
            · have e2 : ((x.toNat : Int) == 92) = false := u8_ne (v := 92) (by decide) q92
              cases htx : textB (x.toNat : Int) with
              | false =>
                have R := Lib.hid (HSQJ.out.bad hjl (by rw [HX.out]; exact q34) (by rw [HX.out]; exact q92) (by rw [HX.out]; exact htx))
                have HTX := Lib.hid (rText_val (x.toNat : Int) false wr htx (by omega) (by omega))
                clear q92 q34 htx
                go_wp2_with fail
                refine HTX.out.mono ?_
                rintro e w3 ⟨rfl, rfl⟩
                go_wp2_with fail
                go_ret3
                rw [R.out]
                exact RetS.none HBW.out
              | true =>
                have HSQ0 := HSQJ.out.next hjl (by rw [HX.out]; exact q34) (by rw [HX.out]; exact q92) (by rw [HX.out]; exact htx)
                rw [HX.out] at HSQ0
                have HSQ := Lib.hid HSQ0
                have HTX := Lib.hid (rText_val (x.toNat : Int) true wr htx (by omega) (by omega))
                clear HSQ0 q92 q34 htx
                go_wp2_with fail
                refine HTX.out.mono ?_
                rintro e w3 ⟨rfl, rfl⟩
                have hcw3 : True := trivial
                obtain ⟨v4, w4, hrun, hbuf4, hbw4⟩ := buf_app HBUF.out HBW.out x (by have := HMJ.out; omega)
                have HR := Lib.hid hrun
                have HB4 := Lib.hid (And.intro hbuf4 hbw4)
                clear hrun hbuf4 hbw4
                go_wp2_with (at_builtin; refine wpList_append_run _ rfl (.tmp 68) (.tmp 73) _ _ rfl _ _ rfl rfl _ _ HR.out ?_)
                go_roundw
                case rel => exact ⟨(j + 1), m ++ [x], by omega, by rw [List.length_append]; show m.length + 1 ≤ _; have := HMJ.out; omega, by go_num, HB4.out.1, HB4.out.2, HSQ.out⟩
                case measure => simp [intOf]; omega
        · have R := Lib.hid (HSQJ.out.out (by omega))
          have hjn : (n : Int) ≤ j := by have := HN.out; omega
          clear hbw
          go_wp2_with fail
          go_ret3
          rw [R.out]
          exact RetS.none HBW.out
    · rw [scanQ_bad l k hk e34]
      have e1 : ((l[k].toNat : Int) != 34) = true := by
        have := u8_ne (v := 34) (by decide) e34
        simpa [bne] using this
      generalize (l[k].toNat : Int) = x at ck e1
      clear hcw hc hb ha e34 HCW
      generalize l.length = n at *
      go_enter Tryd.func21, Tryd.ntmps21
      go_wp2_with fail
      go_ret3
      exact RetS.none (Below.refl _ _)
end Go.Proofs.YthoccgkkgnlbpaaDoor
