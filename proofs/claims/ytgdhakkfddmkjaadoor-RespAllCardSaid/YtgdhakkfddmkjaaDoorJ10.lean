/- The walk of the reference's items. · The walk of resp.Print, whatever form the kind has. · The walk of fetched's text: the items' words, joined. · The walk of tagged's text. -/
import Derived.Test.YtgdhakkfddmkjaaDoorJ6
import Derived.Test.YtgdhakkfddmkjaaDoorJ9
import Derived.Deep.DeepCutAuto
import Derived.Deep.RegionHeld3
import Derived.Test.YtgdhakkfddmkjaaDoorJ5
set_option linter.unusedVariables false
set_option linter.unusedSimpArgs false
namespace Go.Proofs.YtgdhakkfddmkjaaDoor
open Go.RowKit

theorem rNum_any (n : Nat) (w : World) (hn : n < 4294967296) :
    Calls Tryd.prog 29 #[.int .u32 n] w fun e w' => e = .returned (.string (ofL (Lib.decDigits n))) ∧ w = w' := by
  have H := Lib.hid (rDecimal_any n w hn)
  go_enter Tryd.func29, Tryd.ntmps29
  go_wp2_with fail
  refine H.out.mono ?_
  rintro e w1 ⟨rfl, rfl⟩
  go_wp2_with fail
  go_ret
  exact ⟨rfl, rfl⟩
theorem optW_cnt (b : Bool) (w : List UInt8) : (optW b w).length ≤ 1 := by cases b <;> simp [optW]
theorem fdL_le (b1 b2 b4 b16 : Bool) (x0 x1 x2 x3 : List UInt8) : fdL0.length = 0 ∧ (fdL1 b1 x0).length ≤ 1 ∧ (fdL2 b1 b2 x0 x1).length ≤ 2 ∧ (fdL3 b1 b2 b4 x0 x1 x2).length ≤ 3 ∧ (fdL4 b1 b2 b4 b16 x0 x1 x2 x3).length ≤ 4 := by
  have := optW_cnt b1 x0; have := optW_cnt b2 x1; have := optW_cnt b4 x2; have := optW_cnt b16 x3
  refine ⟨rfl, ?_, ?_, ?_, ?_⟩ <;> simp only [fdL1, fdL2, fdL3, fdL4, List.length_append] <;> omega

set_option maxRecDepth 100000 in
set_option maxHeartbeats 6400000 in
theorem items_any (k st it : Int) (n fl ui sz : Nat) (tg tx : ByteArray) (P : Option Addr) (l : List UInt8) (c : Nat) (w : World) (b1 b2 b4 b16 : Bool) (h1 : (bits .and .i64 it 1 != 0) = b1) (h2 : (bits .and .i64 it 2 != 0) = b2) (h4 : (bits .and .i64 it 4 != 0) = b4) (h16 : (bits .and .i64 it 16 != 0) = b16)
    (hfl : fl < 256) (hui : ui < 4294967296) (hsz : sz < 4294967296) (hb : Bys w w.heap.size P l) (hl : l.length ≤ 100000) (hne : 0 < (fdL4 b1 b2 b4 b16 ([70, 76, 65, 71, 83, 32] ++ listF fl) ([85, 73, 68, 32] ++ Lib.decDigits ui) ([82, 70, 67, 56, 50, 50, 46, 83, 73, 90, 69, 32] ++ Lib.decDigits sz) ([66, 79, 68, 89, 91, 93, 32] ++ litB l)).length) :
    Calls Tryd.prog 30 #[.agg #[.int .i64 k, .int .u32 n, .string tg, .int .i64 st, .string tx, .int .i64 it, .int .u8 fl, .int .u32 ui, .int .u32 sz, .slice P l.length c]] w fun e w' => e = .returned (.string (ofL (joinF (fdL4 b1 b2 b4 b16 ([70, 76, 65, 71, 83, 32] ++ listF fl) ([85, 73, 68, 32] ++ Lib.decDigits ui) ([82, 70, 67, 56, 50, 50, 46, 83, 73, 90, 69, 32] ++ Lib.decDigits sz) ([66, 79, 68, 89, 91, 93, 32] ++ litB l))))) ∧ Below w.heap.size w w' := by
  have hk0 : ([70, 76, 65, 71, 83, 32] ++ listF fl).length ≤ 100100 := by have := listF_le fl hfl; simp; omega
  have hk1 : ([85, 73, 68, 32] ++ Lib.decDigits ui).length ≤ 100100 := by have := decDigits_len ui (by omega); simp; omega
  have hk2 : ([82, 70, 67, 56, 50, 50, 46, 83, 73, 90, 69, 32] ++ Lib.decDigits sz).length ≤ 100100 := by have := decDigits_len sz (by omega); simp; omega
  have hk3 : ([66, 79, 68, 89, 91, 93, 32] ++ litB l).length ≤ 100100 := by have := litB_len l (by omega); simp; omega
  have Hb1 := Lib.hid h1
  have Hb2 := Lib.hid h2
  have Hb4 := Lib.hid h4
  have Hb16 := Lib.hid h16
  have HT0 := Lib.hid (fun W => rList_any fl hfl W)
  have HT1 := Lib.hid (fun W => rNum_any ui W hui)
  have HT2 := Lib.hid (fun W => rNum_any sz W hsz)
  have HT3 := Lib.hid (fun W (hW : Below w.heap.size w W) => rLiteral_any P c l W ((hb.below hW).more hW.size) (by omega))
  have hz0 : (ofL (listF fl)).size ≤ 60 := by have := listF_le fl hfl; rw [ofL_size]; omega
  have hz1 : (ofL (Lib.decDigits ui)).size ≤ 10 := by exact decDigits_len ui (by omega)
  have hz2 : (ofL (Lib.decDigits sz)).size ≤ 10 := by exact decDigits_len sz (by omega)
  have hz3 : (ofL (litB l)).size ≤ 100020 := by have := litB_len l (by omega); rw [ofL_size]; omega
  have HX0 : Hid ((⟨#[70, 76, 65, 71, 83, 32]⟩ : ByteArray) ++ ofL (listF fl) = ofL ([70, 76, 65, 71, 83, 32] ++ listF fl)) := Lib.hid (by rw [← ofL_append]; rfl)
  have HX1 : Hid ((⟨#[85, 73, 68, 32]⟩ : ByteArray) ++ ofL (Lib.decDigits ui) = ofL ([85, 73, 68, 32] ++ Lib.decDigits ui)) := Lib.hid (by rw [← ofL_append]; rfl)
  have HX2 : Hid ((⟨#[82, 70, 67, 56, 50, 50, 46, 83, 73, 90, 69, 32]⟩ : ByteArray) ++ ofL (Lib.decDigits sz) = ofL ([82, 70, 67, 56, 50, 50, 46, 83, 73, 90, 69, 32] ++ Lib.decDigits sz)) := Lib.hid (by rw [← ofL_append]; rfl)
  have HX3 : Hid ((⟨#[66, 79, 68, 89, 91, 93, 32]⟩ : ByteArray) ++ ofL (litB l) = ofL ([66, 79, 68, 89, 91, 93, 32] ++ litB l)) := Lib.hid (by rw [← ofL_append]; rfl)
  generalize ([70, 76, 65, 71, 83, 32] ++ listF fl) = x0 at *
  generalize ([85, 73, 68, 32] ++ Lib.decDigits ui) = x1 at *
  generalize ([82, 70, 67, 56, 50, 50, 46, 83, 73, 90, 69, 32] ++ Lib.decDigits sz) = x2 at *
  generalize ([66, 79, 68, 89, 91, 93, 32] ++ litB l) = x3 at *
  have hL4 : ∀ x ∈ fdL4 b1 b2 b4 b16 x0 x1 x2 x3, x.length ≤ 100100 := fun x hx => by
    unfold fdL4 at hx
    rcases List.mem_append.1 hx with hx | hx
    · rw [optW_mem hx]; exact hk0
    · rcases List.mem_append.1 hx with hx | hx
      · rw [optW_mem hx]; exact hk1
      · rcases List.mem_append.1 hx with hx | hx
        · rw [optW_mem hx]; exact hk2
        · rw [optW_mem hx]; exact hk3
  have HL4 := Lib.hid hL4
  have hle := fdL_le b1 b2 b4 b16 x0 x1 x2 x3
  generalize ofL (listF fl) = y0 at *
  generalize ofL (Lib.decDigits ui) = y1 at *
  generalize ofL (Lib.decDigits sz) = y2 at *
  generalize litB l = lt at *
  generalize l.length = bl at *
  clear h1 h2 h4 h16 hb hl hui hsz hL4 hk0 hk1 hk2 hk3
  obtain ⟨res, hres⟩ : ∃ res, res = ofL (joinF (fdL4 b1 b2 b4 b16 x0 x1 x2 x3)) := ⟨_, rfl⟩
  rw [← hres]
  have HRES := Lib.hid hres
  clear hres
  have HLE := Lib.hid hle
  clear hle
  have HNE := Lib.hid hne
  clear hne
  go_enter Tryd.func30, Tryd.ntmps30
  go_upto_region 2 with fail
  have HW0 := Lib.hid (w0_facts w #[.int .i64 k, .int .u32 n, .string tg, .int .i64 st, .string tx, .int .i64 it, .int .u8 fl, .int .u32 ui, .int .u32 sz, .slice P bl c])
  have hlt0 := HW0.out.2.2
  generalize w.alloc (.cells #[.int .i64 k, .int .u32 n, .string tg, .int .i64 st, .string tx, .int .i64 it, .int .u8 fl, .int .u32 ui, .int .u32 sz, .slice P bl c] 26) = w0 at *
  have hst : FdSt w0 fdL0 (.slice none 0 0) w0 := ⟨Buf.nil _ _ _, Below.refl _ _⟩
  obtain ⟨⟨c0, c1, c2, c3, c4, c5, c6, c7, c8, c9⟩, -⟩ := Blk.ten (HW0.out.2.1.below hst.2 HW0.out.2.2)
  have HST0 := Lib.hid hst
  have hlw0 : w.heap.size < w0.heap.size := Nat.lt_of_lt_of_le HW0.out.2.2 hst.2.size
  clear hst
  go_upto_if 9 with fail
  go_cut [3] (fun s3 wx => FdSt w0 (fdL1 b1 x0) s3 wx)
  case first =>
    cases hb : b1 with
    | true =>
      rw [hb] at Hb1
      have hd := Hb1.out
      have HHB := Lib.hid hb
      clear hb
      go_wp2_with fail
      refine (HT0.out _).mono ?_
      rintro e w2 ⟨rfl, rfl⟩
      obtain ⟨hbuf2, hbw2⟩ := HST0.out
      obtain ⟨i0, hi, hz0', hz1', hz2'⟩ := info_parts infoStr
      obtain ⟨v', w', hrun, hbuf', hb'⟩ := buf_app1 Tryd.underlying59 hi hz0' hz1' hz2' rfl (by decide) hbuf2 hbw2 (.string (ofL x0)) rfl (by have := HLE.out; omega) 9
      skip
      have e9 : stV fdL0 ++ [.string (ofL x0)] = stV (fdL1 true x0) := by unfold stV; simp [fdL0, fdL1, fdL2, fdL3, fdL4, optW] <;> omega
      have e8 : fdL0.length + 1 = (fdL1 true x0).length := by simp [fdL0, fdL1, fdL2, fdL3, fdL4, optW] <;> omega
      rw [e9, e8] at hbuf'
      rw [← HX0.out] at hrun
      have HR := Lib.hid hrun
      have H2 := Lib.hid (And.intro hbuf' hb')
      clear hbuf2 hbw2 hrun hbuf' hb' e9 hi hz0' hz1' hz2' e8
      go_wp2_with (at_builtin; refine wpList_append_run _ rfl (.tmp 10) (.tmp 16) _ _ rfl _ _ rfl rfl _ _ HR.out ?_)
      go_meet
      rw [HHB.out]
      exact H2.out
    | false =>
      rw [hb] at Hb1
      have hd := Hb1.out
      have HHB := Lib.hid hb
      clear hb
      go_wp2_with fail
      go_meet
      rw [HHB.out]
      have := HST0.out
      unfold FdSt at this ⊢
      simpa [fdL0, fdL1, fdL2, fdL3, fdL4, optW] using this
  case rest =>
    rename_i s0v
    clear c0 c1 c2 c3 c4 c5 c6 c7 c8 c9 hlw0 HST0
    obtain ⟨⟨c0, c1, c2, c3, c4, c5, c6, c7, c8, c9⟩, -⟩ := Blk.ten (HW0.out.2.1.below hcut.2 HW0.out.2.2)
    have HST1 := Lib.hid hcut
    have hlw1 : w.heap.size < wc.heap.size := Nat.lt_of_lt_of_le HW0.out.2.2 hcut.2.size
    clear hcut
    go_upto_if 21 with fail
    go_cut [3] (fun s3 wx => FdSt w0 (fdL2 b1 b2 x0 x1) s3 wx)
    case first =>
      cases hb : b2 with
      | true =>
        rw [hb] at Hb2
        have hd := Hb2.out
        have HHB := Lib.hid hb
        clear hb
        go_wp2_with fail
        refine (HT1.out _).mono ?_
        rintro e w2 ⟨rfl, rfl⟩
        obtain ⟨hbuf2, hbw2⟩ := HST1.out
        obtain ⟨i0, hi, hz0', hz1', hz2'⟩ := info_parts infoStr
        obtain ⟨v', w', hrun, hbuf', hb'⟩ := buf_app1 Tryd.underlying59 hi hz0' hz1' hz2' rfl (by decide) hbuf2 hbw2 (.string (ofL x1)) rfl (by have := HLE.out; omega) 9
        obtain ⟨A1, cap1, rfl, -⟩ := hbuf2.src (stV_one _)
        have e9 : stV (fdL1 b1 x0) ++ [.string (ofL x1)] = stV (fdL2 b1 true x0 x1) := by unfold stV; simp [fdL0, fdL1, fdL2, fdL3, fdL4, optW] <;> omega
        have e8 : (fdL1 b1 x0).length + 1 = (fdL2 b1 true x0 x1).length := by simp [fdL0, fdL1, fdL2, fdL3, fdL4, optW] <;> omega
        rw [e9, e8] at hbuf'
        rw [← HX1.out] at hrun
        have HR := Lib.hid hrun
        have H2 := Lib.hid (And.intro hbuf' hb')
        clear hbuf2 hbw2 hrun hbuf' hb' e9 hi hz0' hz1' hz2' e8
        go_wp2_with (at_builtin; refine wpList_append_run _ rfl (.tmp 22) (.tmp 27) _ _ rfl _ _ rfl rfl _ _ HR.out ?_)
        go_meet
        rw [HHB.out]
        exact H2.out
      | false =>
        rw [hb] at Hb2
        have hd := Hb2.out
        have HHB := Lib.hid hb
        clear hb
        go_wp2_with fail
        go_meet
        rw [HHB.out]
        have := HST1.out
        unfold FdSt at this ⊢
        simpa [fdL0, fdL1, fdL2, fdL3, fdL4, optW] using this
    case rest =>
      rename_i s1v
      clear c0 c1 c2 c3 c4 c5 c6 c7 c8 c9 hlw1 HST1
      obtain ⟨⟨c0, c1, c2, c3, c4, c5, c6, c7, c8, c9⟩, -⟩ := Blk.ten (HW0.out.2.1.below hcut.2 HW0.out.2.2)
      have HST2 := Lib.hid hcut
      have hlw2 : w.heap.size < wc.heap.size := Nat.lt_of_lt_of_le HW0.out.2.2 hcut.2.size
      clear hcut
      go_upto_if 32 with fail
      go_cut [3] (fun s3 wx => FdSt w0 (fdL3 b1 b2 b4 x0 x1 x2) s3 wx)
      case first =>
        cases hb : b4 with
        | true =>
          rw [hb] at Hb4
          have hd := Hb4.out
          have HHB := Lib.hid hb
          clear hb
          go_wp2_with fail
          refine (HT2.out _).mono ?_
          rintro e w2 ⟨rfl, rfl⟩
          obtain ⟨hbuf2, hbw2⟩ := HST2.out
          obtain ⟨i0, hi, hz0', hz1', hz2'⟩ := info_parts infoStr
          obtain ⟨v', w', hrun, hbuf', hb'⟩ := buf_app1 Tryd.underlying59 hi hz0' hz1' hz2' rfl (by decide) hbuf2 hbw2 (.string (ofL x2)) rfl (by have := HLE.out; omega) 9
          obtain ⟨A1, cap1, rfl, -⟩ := hbuf2.src (stV_one _)
          have e9 : stV (fdL2 b1 b2 x0 x1) ++ [.string (ofL x2)] = stV (fdL3 b1 b2 true x0 x1 x2) := by unfold stV; simp [fdL0, fdL1, fdL2, fdL3, fdL4, optW] <;> omega
          have e8 : (fdL2 b1 b2 x0 x1).length + 1 = (fdL3 b1 b2 true x0 x1 x2).length := by simp [fdL0, fdL1, fdL2, fdL3, fdL4, optW] <;> omega
          rw [e9, e8] at hbuf'
          rw [← HX2.out] at hrun
          have HR := Lib.hid hrun
          have H2 := Lib.hid (And.intro hbuf' hb')
          clear hbuf2 hbw2 hrun hbuf' hb' e9 hi hz0' hz1' hz2' e8
          go_wp2_with (at_builtin; refine wpList_append_run _ rfl (.tmp 33) (.tmp 38) _ _ rfl _ _ rfl rfl _ _ HR.out ?_)
          go_meet
          rw [HHB.out]
          exact H2.out
        | false =>
          rw [hb] at Hb4
          have hd := Hb4.out
          have HHB := Lib.hid hb
          clear hb
          go_wp2_with fail
          go_meet
          rw [HHB.out]
          have := HST2.out
          unfold FdSt at this ⊢
          simpa [fdL0, fdL1, fdL2, fdL3, fdL4, optW] using this
      case rest =>
        rename_i s2v
        clear c0 c1 c2 c3 c4 c5 c6 c7 c8 c9 hlw2 HST2
        obtain ⟨⟨c0, c1, c2, c3, c4, c5, c6, c7, c8, c9⟩, -⟩ := Blk.ten (HW0.out.2.1.below hcut.2 HW0.out.2.2)
        have HST3 := Lib.hid hcut
        have hlw3 : w.heap.size < wc.heap.size := Nat.lt_of_lt_of_le HW0.out.2.2 hcut.2.size
        clear hcut
        go_upto_if 43 with fail
        go_cut [3] (fun s3 wx => FdSt w0 (fdL4 b1 b2 b4 b16 x0 x1 x2 x3) s3 wx)
        case first =>
          cases hb : b16 with
          | true =>
            rw [hb] at Hb16
            have hd := Hb16.out
            have HHB := Lib.hid hb
            clear hb
            go_wp2_with fail
            refine (HT3.out _ ?bel).mono ?_
            · exact HW0.out.1.trans (HST3.out.2.mono HW0.out.1.size)
            rintro e w2 ⟨vv, rfl, hbv, hb2⟩
            obtain ⟨pv, cv, rfl, hcv, hbyv⟩ := hbv.bys
            have hcnv : (convert 24 9 (.slice pv lt.length cv)).run Tryd.prog w2 = .ok (.string (ofL lt)) w2 := conv_bys hbyv cv Tryd.underlying24 Tryd.underlying5 Tryd.underlying9
            have hbuf2 := HST3.out.1.below hb2 (Nat.le_refl _)
            have hbw2 := HST3.out.2.trans (hb2.mono HST3.out.2.size)
            clear hbv hb2 hbyv hcv
            obtain ⟨i0, hi, hz0', hz1', hz2'⟩ := info_parts infoStr
            obtain ⟨v', w', hrun, hbuf', hb'⟩ := buf_app1 Tryd.underlying59 hi hz0' hz1' hz2' rfl (by decide) hbuf2 hbw2 (.string (ofL x3)) rfl (by have := HLE.out; omega) 9
            obtain ⟨A1, cap1, rfl, -⟩ := hbuf2.src (stV_one _)
            have e9 : stV (fdL3 b1 b2 b4 x0 x1 x2) ++ [.string (ofL x3)] = stV (fdL4 b1 b2 b4 true x0 x1 x2 x3) := by unfold stV; simp [fdL0, fdL1, fdL2, fdL3, fdL4, optW] <;> omega
            have e8 : (fdL3 b1 b2 b4 x0 x1 x2).length + 1 = (fdL4 b1 b2 b4 true x0 x1 x2 x3).length := by simp [fdL0, fdL1, fdL2, fdL3, fdL4, optW] <;> omega
            rw [e9, e8] at hbuf'
            rw [← HX3.out] at hrun
            have HR := Lib.hid hrun
            have H2 := Lib.hid (And.intro hbuf' hb')
            clear hbuf2 hbw2 hrun hbuf' hb' e9 hi hz0' hz1' hz2' e8
            go_wp2_with (at_builtin; refine wpList_append_run _ rfl (.tmp 44) (.tmp 50) _ _ rfl _ _ rfl rfl _ _ HR.out ?_)
            go_meet
            rw [HHB.out]
            exact H2.out
          | false =>
            rw [hb] at Hb16
            have hd := Hb16.out
            have HHB := Lib.hid hb
            clear hb
            go_wp2_with fail
            go_meet
            rw [HHB.out]
            have := HST3.out
            unfold FdSt at this ⊢
            simpa [fdL0, fdL1, fdL2, fdL3, fdL4, optW] using this
        case rest =>
          rename_i s3v
          clear c0 c1 c2 c3 c4 c5 c6 c7 c8 c9 hlw3 HST3
          obtain ⟨hbf, hbw⟩ := hcut
          have HB4 : Hid (Below w.heap.size w wc) := Lib.hid (below_call HW0.out.1 hbw)
          have hlen4 := HLE.out.2.2.2.2
          have hpos := HNE.out
          clear HLE HNE HW0 Hb1 Hb2 Hb4 Hb16 HT0 HT1 HT2 HT3 HX0 HX1 HX2 HX3 hbw hz0 hz1 hz2 hz3
          generalize fdL4 b1 b2 b4 b16 x0 x1 x2 x3 = L at *
          rcases hbf.2 with ⟨-, hnil⟩ | ⟨g, off, cap, rfl, hg, hlt, hnc, hcc, -⟩
          · omega
          have hcell : ∀ (j : Nat) (h : j < L.length), wc.cell? ⟨g, off + j, none⟩ = some (.string (ofL L[j])) := fun j h => hcc j _ (by unfold stV; rw [List.getElem?_map, List.getElem?_eq_getElem h]; rfl)
          have HC := Lib.hid hcell
          clear hcell hcc hbf
          have hc00 := HC.out 0 hpos
          rw [Nat.add_zero] at hc00
          have hl63 : (L.length : Int) ≤ 4 := by omega
          go_wp2_with fail
          clear hc00
          go_loopw [4, 5] (fun s i wr => ∃ j : Nat, 1 ≤ j ∧ j ≤ L.length ∧ i = .int .i64 j ∧ s = .string (ofL (joinF (L.take j))) ∧ ∃ nq, wr = wc.drewN nq) (fun _ i _ => L.length - (intOf i).toNat)
          case atStart => exact ⟨1, Nat.le_refl _, hpos, rfl, by
            cases L with
            | nil => exact absurd hpos (by decide)
            | cons a r => rfl, 0, rfl⟩
          case round =>
            obtain ⟨j, hj1, hj2, rfl, rfl, nq, rfl⟩ := hrel
            by_cases hlt' : j < L.length
            · have hcj := HC.out j hlt'
              have hsn : joinF (L.take (j + 1)) = joinF (L.take j) ++ 32 :: L[j] := by
                rw [List.take_succ_eq_append_getElem hlt', joinF_snoc _ _ (fun e => by have := congrArg List.length e; rw [List.length_take, List.length_nil] at this; omega)]
              have HSN := Lib.hid hsn
              have hl1 := joinF_len (L.take j) 100100 (fun x hx => HL4.out x (List.mem_of_mem_take hx))
              have hl2 := HL4.out L[j] (List.getElem_mem hlt')
              have hl3 : (L.take j).length * (100100 + 1) ≤ 4 * (100100 + 1) := Nat.mul_le_mul_right _ (by rw [List.length_take]; omega)
              have hs1 : (ofL (joinF (L.take j))).size ≤ 500000 := by rw [ofL_size]; omega
              have hs2 : (ofL L[j]).size ≤ 100100 := by rw [ofL_size]; exact hl2
              clear hl1 hl2 hl3 hsn
              generalize L[j] = lj at *
              generalize joinF (L.take j) = acc at *
              go_wp2_with fail
              go_roundw
              case rel => exact ⟨j + 1, by omega, by omega, by go_num, by rw [HSN.out, show (⟨#[32]⟩ : ByteArray) = ofL [32] from rfl, str_add, str_add]; simp, _, rfl⟩
              case measure => simp [intOf]; omega
            · obtain rfl : j = L.length := by omega
              have hR : Hid (ofL (joinF (L.take L.length)) = res) := Lib.hid (by rw [List.take_length]; exact HRES.out.symm)
              generalize joinF (L.take L.length) = acc at *
              go_wp2_with fail
              go_ret
              exact ⟨by rw [← hR.out]; rfl, Below.many HB4.out _⟩

end Go.Proofs.YtgdhakkfddmkjaaDoor
namespace Go.Proofs.YtgdhakkfddmkjaaDoor
open Go.RowKit

/-- What Print hands back: the bytes, in memory of its own, or nothing. -/
def PrPost (w : World) (ok : Bool) (l : List UInt8) (e : Ending) (w' : World) : Prop :=
  ∃ v, e = .returned (.tuple #[v, .bool ok]) ∧ Buf w' w.heap.size 1 v l.length (Lib.byteCells l) ∧ Below w.heap.size w w'
theorem ten_all {W : World} {g : Nat} {t : TypeId} {a0 a1 a2 a3 a4 a5 a6 a7 a8 a9 : Value} (h : Blk W g t #[a0, a1, a2, a3, a4, a5, a6, a7, a8, a9]) :
    W.cell? ⟨g, 0, none⟩ = some a0 ∧ W.cell? ⟨g, 1, none⟩ = some a1 ∧ W.cell? ⟨g, 2, none⟩ = some a2 ∧ W.cell? ⟨g, 3, none⟩ = some a3 ∧ W.cell? ⟨g, 4, none⟩ = some a4 ∧ W.cell? ⟨g, 5, none⟩ = some a5 ∧ W.cell? ⟨g, 6, none⟩ = some a6 ∧ W.cell? ⟨g, 7, none⟩ = some a7 ∧ W.cell? ⟨g, 8, none⟩ = some a8 ∧ W.cell? ⟨g, 9, none⟩ = some a9 := (Blk.ten h).1

theorem field_fm (v1 v2 : Value) (W : World) : (Instr.field 51 (.agg #[v1, v2]) 0).run Tryd.prog W = .ok v1 W := by kernel_rfl

set_option maxRecDepth 100000 in
set_option maxHeartbeats 6400000 in
theorem print_no (k n st it fl ui sz : Int) (tg tx : ByteArray) (P : Option Addr) (bl c : Nat) (w : World)
    (hv : ∀ W, Below w.heap.size w W → Calls Tryd.prog 13 #[.agg #[.int .i64 k, .int .u32 n, .string tg, .int .i64 st, .string tx, .int .i64 it, .int .u8 fl, .int .u32 ui, .int .u32 sz, .slice P bl c]] W fun e w' => e = .returned (.bool false) ∧ Below W.heap.size W w') :
    Calls Tryd.prog 11 #[.agg #[.int .i64 k, .int .u32 n, .string tg, .int .i64 st, .string tx, .int .i64 it, .int .u8 fl, .int .u32 ui, .int .u32 sz, .slice P bl c]] w (PrPost w false []) := by
  have HV := Lib.hid hv
  clear hv
  go_enter Tryd.func11, Tryd.ntmps11
  go_wp2_with fail
  refine (HV.out _ ?bel).mono ?_
  · exact (Below.refl _ _).alloc (Nat.le_refl _) _
  rintro e w1 ⟨rfl, hb⟩
  have HB : Hid (Below w.heap.size w w1) := Lib.hid (below_call ((Below.refl _ _).alloc (Nat.le_refl _) _) hb)
  clear hb
  go_wp2_with fail
  go_ret2
  exact ⟨_, rfl, Buf.nil _ _ _, HB.out⟩

set_option maxRecDepth 100000 in
set_option maxHeartbeats 6400000 in
theorem print_yes (f1 : FuncId) (k n st it fl ui sz : Int) (tg tx : ByteArray) (P : Option Addr) (bl c : Nat) (w : World) (tv : ByteArray) (htv : tv.size ≤ 1000000)
    (hv : ∀ W, Below w.heap.size w W → Calls Tryd.prog 13 #[.agg #[.int .i64 k, .int .u32 n, .string tg, .int .i64 st, .string tx, .int .i64 it, .int .u8 fl, .int .u32 ui, .int .u32 sz, .slice P bl c]] W fun e w' => e = .returned (.bool true) ∧ Below W.heap.size W w')
    (hcf : ∀ args W, (callFunc f1 args).run Tryd.prog W = .ok (.enter f1 args) W)
    (hk : ∀ (w0 wi : World) b g1 g2 g3 g6 g7 g8 g10, Below w.heap.size w w0 → FmSt w0 b (frmMap g1 g2 g3 g6 g7 g8 g10) (frmWd g1 g2 g3 g6 g7 g8 g10) wi → ∃ cc f2, lookK (frmMap g1 g2 g3 g6 g7 g8 g10) k = some (fmV f1 f2 cc) ∧
      Calls Tryd.prog f1 (#[.agg #[.int .i64 k, .int .u32 n, .string tg, .int .i64 st, .string tx, .int .i64 it, .int .u8 fl, .int .u32 ui, .int .u32 sz, .slice P bl c]] ++ cc) wi fun e w' => e = .returned (.string tv) ∧ Below wi.heap.size wi w') :
    Calls Tryd.prog 11 #[.agg #[.int .i64 k, .int .u32 n, .string tg, .int .i64 st, .string tx, .int .i64 it, .int .u8 fl, .int .u32 ui, .int .u32 sz, .slice P bl c]] w (PrPost w true (tv.data.toList ++ [13, 10])) := by
  have HM := Lib.hid forms_any
  have HK := Lib.hid hk
  have HV := Lib.hid hv
  have HC := Lib.hid conv_new
  have hfd := field_fm
  have z1 : ¬ (9223372036854775807 < tv.size + 2) := by omega
  clear hk hv
  go_enter Tryd.func11, Tryd.ntmps11
  go_wp2_with fail
  have HW0 := Lib.hid (w0_facts w #[.int .i64 k, .int .u32 n, .string tg, .int .i64 st, .string tx, .int .i64 it, .int .u8 fl, .int .u32 ui, .int .u32 sz, .slice P bl c])
  have hlt0 := HW0.out.2.2
  generalize w.alloc (.cells #[.int .i64 k, .int .u32 n, .string tg, .int .i64 st, .string tx, .int .i64 it, .int .u8 fl, .int .u32 ui, .int .u32 sz, .slice P bl c] 26) = w0 at *
  refine (HV.out _ HW0.out.1).mono ?_
  rintro e w1 ⟨rfl, hb⟩
  have HW1 : Hid (Below w.heap.size w w1 ∧ Blk w1 w.heap.size 26 #[.int .i64 k, .int .u32 n, .string tg, .int .i64 st, .string tx, .int .i64 it, .int .u8 fl, .int .u32 ui, .int .u32 sz, .slice P bl c] ∧ w.heap.size < w1.heap.size) := Lib.hid ⟨below_call HW0.out.1 hb, Blk.below HW0.out.2.1 hb hlt0, Nat.lt_of_lt_of_le hlt0 hb.size⟩
  have hlt1 := HW1.out.2.2
  clear hb HW0 hlt0 w0
  go_wp2_with fail
  refine wp_region_noPanic ?_
  refine wp_region_held_drew (S := (fun W => W.cell? ⟨w.heap.size, 0, none⟩ = some (.int .i64 k) ∧ W.cell? ⟨w.heap.size, 1, none⟩ = some (.int .u32 n) ∧ W.cell? ⟨w.heap.size, 2, none⟩ = some (.string tg) ∧ W.cell? ⟨w.heap.size, 3, none⟩ = some (.int .i64 st) ∧ W.cell? ⟨w.heap.size, 4, none⟩ = some (.string tx) ∧ W.cell? ⟨w.heap.size, 5, none⟩ = some (.int .i64 it) ∧ W.cell? ⟨w.heap.size, 6, none⟩ = some (.int .u8 fl) ∧ W.cell? ⟨w.heap.size, 7, none⟩ = some (.int .u32 ui) ∧ W.cell? ⟨w.heap.size, 8, none⟩ = some (.int .u32 sz) ∧ W.cell? ⟨w.heap.size, 9, none⟩ = some (.slice P bl c))) (by kernel_rfl) ?_ (fun hHeldA => ?_)
  · first | (dsimp only; ((refine ten_all (t := 26) ?_; (repeat (first | with_reducible refine Blk.drew ?_ | with_reducible refine Blk.past ?_ _ | with_reducible refine Blk.far3 ?_ (by omega) _)); first | with_reducible exact HE4.out.1 | with_reducible exact HE3.out.1 | with_reducible exact HE2.out.1 | with_reducible exact HW1.out.2.1))) | ((refine ten_all (t := 26) ?_; (repeat (first | with_reducible refine Blk.drew ?_ | with_reducible refine Blk.past ?_ _ | with_reducible refine Blk.far3 ?_ (by omega) _)); first | with_reducible exact HE4.out.1 | with_reducible exact HE3.out.1 | with_reducible exact HE2.out.1 | with_reducible exact HW1.out.2.1))
  refine wpAnyH_take (i := 1) (v := ?_) rfl (by kernel_rfl) (by kernel_rfl) (by kernel_rfl) (fun _ _ _ h => h) (Or.inl ⟨by rfl, ?_⟩) (by assumption) ?_
  rotate_left
  · intro w hSw
    try dsimp only at hSw
    go_simp
    try with_reducible rfl
  try simp only [List.getElem_toArray, List.getElem_cons_zero, List.getElem_cons_succ, Act.put, List.setIfInBounds_toArray, List.set_cons_zero, List.set_cons_succ]
  refine wpAnyH_take (i := 2) (v := ?_) rfl (by kernel_rfl) (by kernel_rfl) (by kernel_rfl) (fun _ _ _ h => h) (Or.inl ⟨by rfl, ?_⟩) (by assumption) ?_
  rotate_left
  · intro w hSw
    try dsimp only at hSw
    go_simp
    try with_reducible rfl
  try simp only [List.getElem_toArray, List.getElem_cons_zero, List.getElem_cons_succ, Act.put, List.setIfInBounds_toArray, List.set_cons_zero, List.set_cons_succ]
  refine wpAnyH_take (i := 5) (v := ?_) rfl (by kernel_rfl) (by kernel_rfl) (by kernel_rfl) (fun _ _ _ h => h) (Or.inl ⟨by rfl, ?_⟩) (by assumption) ?_
  rotate_left
  · intro w hSw
    try dsimp only at hSw
    go_simp
    try with_reducible rfl
  try simp only [List.getElem_toArray, List.getElem_cons_zero, List.getElem_cons_succ, Act.put, List.setIfInBounds_toArray, List.set_cons_zero, List.set_cons_succ]
  refine wpAnyH_ready (rs := [0]) (by kernel_rfl) (by simp) ?_
  refine AllReadyH.cons rfl (fun K hK => ?_) AllReadyH.nil
  try simp only [List.getElem_toArray, List.getElem_cons_zero, List.getElem_cons_succ]
  go_simp
  (first
      | (go_at_call 26; refine (HM.out _).mono ?_; rintro e w2 ⟨b, g1, g2, g3, g6, g7, g8, g10, rfl, hs⟩; obtain ⟨cc, f2, hkk, hcall⟩ := HK.out _ _ _ _ _ _ _ _ _ _ HW1.out.1.drew hs; have hl := hs.1.look1 (kMapFm w) Tryd.underlying52 (zeroFm w2) k; rw [hkk] at hl; clear hkk; simp only [Option.getD_some, fmV] at hl; have HCC := Lib.hid hcall; have HE2 : Hid (Blk w2 w.heap.size 26 #[.int .i64 k, .int .u32 n, .string tg, .int .i64 st, .string tx, .int .i64 it, .int .u8 fl, .int .u32 ui, .int .u32 sz, .slice P bl c] ∧ Below w.heap.size w w2) := Lib.hid ⟨Blk.below HW1.out.2.1.drewd hs.2.1 HW1.out.2.2, below_call HW1.out.1.drew hs.2.1⟩; clear hs hcall)
      | (refine HCC.out.mono ?_; rintro e w3 ⟨rfl, hb3⟩; have HE3 : Hid (Blk w3 w.heap.size 26 #[.int .i64 k, .int .u32 n, .string tg, .int .i64 st, .string tx, .int .i64 it, .int .u8 fl, .int .u32 ui, .int .u32 sz, .slice P bl c] ∧ Below w.heap.size w w3) := Lib.hid ⟨Blk.below HE2.out.1 hb3 HE2.out.1.lt, below_call HE2.out.2 hb3⟩; obtain ⟨vv, w4, hrun, hbuf, hb4⟩ := HC.out w3 (tv ++ ⟨#[13, 10]⟩); have HE4 : Hid (Blk w4 w.heap.size 26 #[.int .i64 k, .int .u32 n, .string tg, .int .i64 st, .string tx, .int .i64 it, .int .u8 fl, .int .u32 ui, .int .u32 sz, .slice P bl c] ∧ Below w.heap.size w w4) := Lib.hid ⟨Blk.below HE3.out.1 hb4 HE3.out.1.lt, below_call HE3.out.2 hb4⟩; have HBUF := Lib.hid (hbuf.mono HE3.out.2.size); clear hb3 hbuf hb4))
  first | (with_reducible refine hK.out _ _ ?_ (fun hHeldB => ?_)) | (go_wp2_with fail; refine hK.out _ _ ?_ (fun hHeldB => ?_))
  · first | (dsimp only; ((refine ten_all (t := 26) ?_; (repeat (first | with_reducible refine Blk.drew ?_ | with_reducible refine Blk.past ?_ _ | with_reducible refine Blk.far3 ?_ (by omega) _)); first | with_reducible exact HE4.out.1 | with_reducible exact HE3.out.1 | with_reducible exact HE2.out.1 | with_reducible exact HW1.out.2.1))) | ((refine ten_all (t := 26) ?_; (repeat (first | with_reducible refine Blk.drew ?_ | with_reducible refine Blk.past ?_ _ | with_reducible refine Blk.far3 ?_ (by omega) _)); first | with_reducible exact HE4.out.1 | with_reducible exact HE3.out.1 | with_reducible exact HE2.out.1 | with_reducible exact HW1.out.2.1))
  clear hK K hHeldA
  try simp only [Act.put, List.setIfInBounds_toArray, List.set_cons_zero, List.set_cons_succ]
  refine wpAnyH_ready (rs := [3]) (by kernel_rfl) (by simp) ?_
  refine AllReadyH.cons rfl (fun K hK => ?_) AllReadyH.nil
  try simp only [List.getElem_toArray, List.getElem_cons_zero, List.getElem_cons_succ]
  go_simp
  first | (with_reducible refine hK.out _ _ ?_ (fun hHeldA => ?_)) | (go_wp2_with fail; refine hK.out _ _ ?_ (fun hHeldA => ?_))
  · first | (dsimp only; ((refine ten_all (t := 26) ?_; (repeat (first | with_reducible refine Blk.drew ?_ | with_reducible refine Blk.past ?_ _ | with_reducible refine Blk.far3 ?_ (by omega) _)); first | with_reducible exact HE4.out.1 | with_reducible exact HE3.out.1 | with_reducible exact HE2.out.1 | with_reducible exact HW1.out.2.1))) | ((refine ten_all (t := 26) ?_; (repeat (first | with_reducible refine Blk.drew ?_ | with_reducible refine Blk.past ?_ _ | with_reducible refine Blk.far3 ?_ (by omega) _)); first | with_reducible exact HE4.out.1 | with_reducible exact HE3.out.1 | with_reducible exact HE2.out.1 | with_reducible exact HW1.out.2.1))
  clear hK K hHeldB
  try simp only [Act.put, List.setIfInBounds_toArray, List.set_cons_zero, List.set_cons_succ]
  refine wpAnyH_take (i := 4) (v := ?_) rfl (by kernel_rfl) (by kernel_rfl) (by kernel_rfl) (fun _ _ _ h => h) (Or.inl ⟨by rfl, ?_⟩) (by assumption) ?_
  rotate_left
  · intro w hSw
    try dsimp only at hSw
    go_simp
    try with_reducible rfl
  try simp only [List.getElem_toArray, List.getElem_cons_zero, List.getElem_cons_succ, Act.put, List.setIfInBounds_toArray, List.set_cons_zero, List.set_cons_succ]
  refine wpAnyH_ready (rs := [6]) (by kernel_rfl) (by simp) ?_
  refine AllReadyH.cons rfl (fun K hK => ?_) AllReadyH.nil
  try simp only [List.getElem_toArray, List.getElem_cons_zero, List.getElem_cons_succ]
  go_simp
  (first
      | (go_at_call 26; refine (HM.out _).mono ?_; rintro e w2 ⟨b, g1, g2, g3, g6, g7, g8, g10, rfl, hs⟩; obtain ⟨cc, f2, hkk, hcall⟩ := HK.out _ _ _ _ _ _ _ _ _ _ HW1.out.1.drew hs; have hl := hs.1.look1 (kMapFm w) Tryd.underlying52 (zeroFm w2) k; rw [hkk] at hl; clear hkk; simp only [Option.getD_some, fmV] at hl; have HCC := Lib.hid hcall; have HE2 : Hid (Blk w2 w.heap.size 26 #[.int .i64 k, .int .u32 n, .string tg, .int .i64 st, .string tx, .int .i64 it, .int .u8 fl, .int .u32 ui, .int .u32 sz, .slice P bl c] ∧ Below w.heap.size w w2) := Lib.hid ⟨Blk.below HW1.out.2.1.drewd hs.2.1 HW1.out.2.2, below_call HW1.out.1.drew hs.2.1⟩; clear hs hcall)
      | (refine HCC.out.mono ?_; rintro e w3 ⟨rfl, hb3⟩; have HE3 : Hid (Blk w3 w.heap.size 26 #[.int .i64 k, .int .u32 n, .string tg, .int .i64 st, .string tx, .int .i64 it, .int .u8 fl, .int .u32 ui, .int .u32 sz, .slice P bl c] ∧ Below w.heap.size w w3) := Lib.hid ⟨Blk.below HE2.out.1 hb3 HE2.out.1.lt, below_call HE2.out.2 hb3⟩; obtain ⟨vv, w4, hrun, hbuf, hb4⟩ := HC.out w3 (tv ++ ⟨#[13, 10]⟩); have HE4 : Hid (Blk w4 w.heap.size 26 #[.int .i64 k, .int .u32 n, .string tg, .int .i64 st, .string tx, .int .i64 it, .int .u8 fl, .int .u32 ui, .int .u32 sz, .slice P bl c] ∧ Below w.heap.size w w4) := Lib.hid ⟨Blk.below HE3.out.1 hb4 HE3.out.1.lt, below_call HE3.out.2 hb4⟩; have HBUF := Lib.hid (hbuf.mono HE3.out.2.size); clear hb3 hbuf hb4))
  first | (with_reducible refine hK.out _ _ ?_ (fun hHeldB => ?_)) | (go_wp2_with fail; refine hK.out _ _ ?_ (fun hHeldB => ?_))
  · first | (dsimp only; ((refine ten_all (t := 26) ?_; (repeat (first | with_reducible refine Blk.drew ?_ | with_reducible refine Blk.past ?_ _ | with_reducible refine Blk.far3 ?_ (by omega) _)); first | with_reducible exact HE4.out.1 | with_reducible exact HE3.out.1 | with_reducible exact HE2.out.1 | with_reducible exact HW1.out.2.1))) | ((refine ten_all (t := 26) ?_; (repeat (first | with_reducible refine Blk.drew ?_ | with_reducible refine Blk.past ?_ _ | with_reducible refine Blk.far3 ?_ (by omega) _)); first | with_reducible exact HE4.out.1 | with_reducible exact HE3.out.1 | with_reducible exact HE2.out.1 | with_reducible exact HW1.out.2.1))
  clear hK K hHeldA
  try simp only [Act.put, List.setIfInBounds_toArray, List.set_cons_zero, List.set_cons_succ]
  refine wpAnyH_take (i := 7) (v := ?_) rfl (by kernel_rfl) (by kernel_rfl) (by kernel_rfl) (fun _ _ _ h => h) (Or.inl ⟨by rfl, ?_⟩) (by assumption) ?_
  rotate_left
  · intro w hSw
    try dsimp only at hSw
    go_simp
    try with_reducible rfl
  try simp only [List.getElem_toArray, List.getElem_cons_zero, List.getElem_cons_succ, Act.put, List.setIfInBounds_toArray, List.set_cons_zero, List.set_cons_succ]
  refine wpAnyH_ready (rs := [8]) (by kernel_rfl) (by simp) ?_
  refine AllReadyH.cons rfl (fun K hK => ?_) AllReadyH.nil
  try simp only [List.getElem_toArray, List.getElem_cons_zero, List.getElem_cons_succ]
  go_simp
  first | (with_reducible refine hK.out _ _ ?_ (fun hHeldA => ?_)) | (go_wp2_with fail; refine hK.out _ _ ?_ (fun hHeldA => ?_))
  · first | (dsimp only; ((refine ten_all (t := 26) ?_; (repeat (first | with_reducible refine Blk.drew ?_ | with_reducible refine Blk.past ?_ _ | with_reducible refine Blk.far3 ?_ (by omega) _)); first | with_reducible exact HE4.out.1 | with_reducible exact HE3.out.1 | with_reducible exact HE2.out.1 | with_reducible exact HW1.out.2.1))) | ((refine ten_all (t := 26) ?_; (repeat (first | with_reducible refine Blk.drew ?_ | with_reducible refine Blk.past ?_ _ | with_reducible refine Blk.far3 ?_ (by omega) _)); first | with_reducible exact HE4.out.1 | with_reducible exact HE3.out.1 | with_reducible exact HE2.out.1 | with_reducible exact HW1.out.2.1))
  clear hK K hHeldB
  try simp only [Act.put, List.setIfInBounds_toArray, List.set_cons_zero, List.set_cons_succ]
  refine wpAnyH_take (i := 9) (v := ?_) rfl (by kernel_rfl) (by kernel_rfl) (by kernel_rfl) (fun _ _ _ h => h) (Or.inl ⟨by rfl, ?_⟩) (by assumption) ?_
  rotate_left
  · intro w hSw
    try dsimp only at hSw
    go_simp
    try with_reducible rfl
  try simp only [List.getElem_toArray, List.getElem_cons_zero, List.getElem_cons_succ, Act.put, List.setIfInBounds_toArray, List.set_cons_zero, List.set_cons_succ]
  refine wpAnyH_take (i := 10) (v := ?_) rfl (by kernel_rfl) (by kernel_rfl) (by kernel_rfl) (fun _ _ _ h => h) (Or.inl ⟨by rfl, ?_⟩) (by assumption) ?_
  rotate_left
  · intro w hSw
    try dsimp only at hSw
    go_simp
    try with_reducible rfl
  try simp only [List.getElem_toArray, List.getElem_cons_zero, List.getElem_cons_succ, Act.put, List.setIfInBounds_toArray, List.set_cons_zero, List.set_cons_succ]
  refine wpAnyH_done (by kernel_rfl) ?_ _
  refine NoPanic.normal ?_
  go_wp2_with fail
  go_ret2
  have e1 : (tv ++ ⟨#[13, 10]⟩ : ByteArray).data.toList = tv.data.toList ++ [13, 10] := by simp
  have e2 : (tv ++ ⟨#[13, 10]⟩ : ByteArray).size = (tv.data.toList ++ [13, 10]).length := by rw [← e1, Array.length_toList]; rfl
  have hbf := HBUF.out
  rw [e1, e2] at hbf
  exact ⟨_, rfl, hbf, HE4.out.2⟩
end Go.Proofs.YtgdhakkfddmkjaaDoor
namespace Go.Proofs.YtgdhakkfddmkjaaDoor
open Go.RowKit

theorem optW_len (b : Bool) (w : List UInt8) (m : Nat) (h : w.length ≤ m) : ∀ x ∈ optW b w, x.length ≤ m := fun x hx => by rw [optW_mem hx]; exact h
theorem optW_count (b : Bool) (w : List UInt8) : (optW b w).length ≤ 1 := by cases b <;> simp [optW]

set_option maxRecDepth 100000 in
set_option maxHeartbeats 6400000 in
theorem fetched1_any (k st it : Int) (n fl ui sz : Nat) (tg tx : ByteArray) (P : Option Addr) (l : List UInt8) (c : Nat) (w : World) (b1 b2 b4 b16 : Bool) (h1 : (bits .and .i64 it 1 != 0) = b1) (h2 : (bits .and .i64 it 2 != 0) = b2) (h4 : (bits .and .i64 it 4 != 0) = b4) (h16 : (bits .and .i64 it 16 != 0) = b16)
    (hn : n < 4294967296) (hfl : fl < 256) (hui : ui < 4294967296) (hsz : sz < 4294967296) (hb : Bys w w.heap.size P l) (hl : l.length ≤ 100000) (hc : l.length ≤ c) (hS : Std w) (hA : StdA w) :
    Calls Tryd.prog 60 #[.agg #[.int .i64 k, .int .u32 n, .string tg, .int .i64 st, .string tx, .int .i64 it, .int .u8 fl, .int .u32 ui, .int .u32 sz, .slice P l.length c]] w fun e w' => e = .returned (.string (ofL ([42, 32] ++ (Lib.decDigits n ++ ([32, 70, 69, 84, 67, 72, 32, 40] ++ (joinF (optW b1 ([70, 76, 65, 71, 83, 32] ++ listF fl) ++ (optW b2 ([85, 73, 68, 32] ++ Lib.decDigits ui) ++ (optW b4 ([82, 70, 67, 56, 50, 50, 46, 83, 73, 90, 69, 32] ++ Lib.decDigits sz) ++ optW b16 ([66, 79, 68, 89, 91, 93, 32] ++ litB l)))) ++ [41])))))) ∧ Below w.heap.size w w' := by
  have hk0 : ([70, 76, 65, 71, 83, 32] ++ listF fl).length ≤ 100 := by have := listF_le fl hfl; simp; omega
  have hk1 : ([85, 73, 68, 32] ++ Lib.decDigits ui).length ≤ 100 := by have := decDigits_len ui (by omega); simp; omega
  have hk2 : ([82, 70, 67, 56, 50, 50, 46, 83, 73, 90, 69, 32] ++ Lib.decDigits sz).length ≤ 100 := by have := decDigits_len sz (by omega); simp; omega
  have hk3 : ([66, 79, 68, 89, 91, 93, 32] ++ litB l).length ≤ 100100 := by have := litB_len l (by omega); simp; omega
  have HP := Lib.hid parts_any
  have Hb1 := Lib.hid h1
  have Hb2 := Lib.hid h2
  have Hb4 := Lib.hid h4
  have Hb16 := Lib.hid h16
  have HT0 := Lib.hid (fun W (hW : Below w.heap.size w W) => ptext0_any k n st it ui sz fl tg tx P l.length c W hfl (hA.below hW))
  have HT1 := Lib.hid (fun W (hW : Below w.heap.size w W) => ptext1_any k n st it fl sz ui tg tx P l.length c W hui (hS.below hW))
  have HT2 := Lib.hid (fun W (hW : Below w.heap.size w W) => ptext2_any k n st it fl ui sz tg tx P l.length c W hsz (hS.below hW))
  have HT3 := Lib.hid (fun W (hW : Below w.heap.size w W) => ptext3_any k n st it fl ui sz tg tx P l c W ((hb.below hW).more hW.size) hl hc (hS.below hW))
  have HD := Lib.hid (fun W (hW : Below w.heap.size w W) => decimal_any n W hn (hS.below hW))
  have hdl : (ofL (Lib.decDigits n)).size ≤ 10 := decDigits_len n (by omega)
  have HE : ∀ J : List UInt8, ofL ([42, 32] ++ (Lib.decDigits n ++ ([32, 70, 69, 84, 67, 72, 32, 40] ++ (J ++ [41])))) = ⟨#[42, 32]⟩ ++ ofL (Lib.decDigits n) ++ ⟨#[32, 70, 69, 84, 67, 72, 32, 40]⟩ ++ ofL J ++ ⟨#[41]⟩ := fun J => by rw [show (⟨#[42, 32]⟩ : ByteArray) = ofL [42, 32] from rfl, show (⟨#[32, 70, 69, 84, 67, 72, 32, 40]⟩ : ByteArray) = ofL [32, 70, 69, 84, 67, 72, 32, 40] from rfl, show (⟨#[41]⟩ : ByteArray) = ofL [41] from rfl, ofL_append, ofL_append, ofL_append, ofL_append]; simp
  rw [show optW b1 ([70, 76, 65, 71, 83, 32] ++ listF fl) ++ (optW b2 ([85, 73, 68, 32] ++ Lib.decDigits ui) ++ (optW b4 ([82, 70, 67, 56, 50, 50, 46, 83, 73, 90, 69, 32] ++ Lib.decDigits sz) ++ optW b16 ([66, 79, 68, 89, 91, 93, 32] ++ litB l))) = fdL4 b1 b2 b4 b16 ([70, 76, 65, 71, 83, 32] ++ listF fl) ([85, 73, 68, 32] ++ Lib.decDigits ui) ([82, 70, 67, 56, 50, 50, 46, 83, 73, 90, 69, 32] ++ Lib.decDigits sz) ([66, 79, 68, 89, 91, 93, 32] ++ litB l) from rfl, HE]
  have HFL : ∃ res, res = ⟨#[42, 32]⟩ ++ ofL (Lib.decDigits n) ++ ⟨#[32, 70, 69, 84, 67, 72, 32, 40]⟩ ++ ofL (joinF (fdL4 b1 b2 b4 b16 ([70, 76, 65, 71, 83, 32] ++ listF fl) ([85, 73, 68, 32] ++ Lib.decDigits ui) ([82, 70, 67, 56, 50, 50, 46, 83, 73, 90, 69, 32] ++ Lib.decDigits sz) ([66, 79, 68, 89, 91, 93, 32] ++ litB l))) ++ ⟨#[41]⟩ := ⟨_, rfl⟩
  obtain ⟨res, hres⟩ := HFL
  rw [← hres]
  have HFL := Lib.hid hres
  clear hres
  generalize ofL (Lib.decDigits n) = ds at *
  generalize ([70, 76, 65, 71, 83, 32] ++ listF fl) = x0 at *
  generalize ([85, 73, 68, 32] ++ Lib.decDigits ui) = x1 at *
  generalize ([82, 70, 67, 56, 50, 50, 46, 83, 73, 90, 69, 32] ++ Lib.decDigits sz) = x2 at *
  generalize ([66, 79, 68, 89, 91, 93, 32] ++ litB l) = x3 at *
  generalize l.length = bl at *
  clear h1 h2 h4 h16 HE hS hA hb hl hc hn hfl hui hsz
  go_enter Tryd.func60, Tryd.ntmps60
  go_wp2_with fail
  refine (HP.out _).mono ?_
  rintro e w1 ⟨rfl, hp, hb⟩
  have HG : Hid (Blk w1 w.heap.size 26 #[.int .i64 k, .int .u32 n, .string tg, .int .i64 st, .string tx, .int .i64 it, .int .u8 fl, .int .u32 ui, .int .u32 sz, .slice P bl c] ∧ Blk w1 (w.heap.size + 1) 65 prtC ∧ Below w.heap.size w w1) := Lib.hid ⟨Blk.below (Blk.made _ _ _) hb (by simp only [World.size_alloc]; omega), by simp only [World.size_alloc] at hp; exact hp, ((Below.refl _ _).alloc (Nat.le_refl _) _).trans (hb.mono (by simp only [World.size_alloc]; omega))⟩
  clear hp hb
  go_wp2_with fail
  go_loopw [3, 8] (fun out i wr => FdRel w1 x0 x1 x2 x3 b1 b2 b4 b16 out i wr) (fun _ i _ => 4 - (intOf i).toNat)
  case atStart => exact .inl ⟨rfl, Buf.nil _ _ _, Below.refl _ _⟩
  case round =>
    rcases hrel with ⟨rfl, h⟩ | ⟨rfl, h⟩ | ⟨rfl, h⟩ | ⟨rfl, h⟩ | ⟨rfl, h⟩
    · obtain ⟨hbuf, hbb⟩ := h
      obtain ⟨q0, q1, q2⟩ := prt0 (HG.out.2.1.below hbb HG.out.2.1.lt)
      obtain ⟨⟨c0, c1, c2, c3, c4, c5, c6, c7, c8, c9⟩, -⟩ := Blk.ten (HG.out.1.below hbb HG.out.1.lt)
      have hlt1 : w.heap.size < wr.heap.size := Nat.lt_of_lt_of_le HG.out.1.lt hbb.size
      have hlt2 : w.heap.size + 1 < wr.heap.size := Nat.lt_of_lt_of_le HG.out.2.1.lt hbb.size
      have HM := Lib.hid (And.intro hbuf hbb)
      clear hbuf hbb
      cases hb : b1 with
      | true =>
        rw [hb] at Hb1
        have hd := Hb1.out
        have HMB := Lib.hid (hb)
        clear hb
        go_wp2_with fail
        refine (HT0.out _ ?bel0).mono ?_
        · exact HG.out.2.2.trans ((HM.out.2.alloc HM.out.2.size _).mono HG.out.2.2.size)
        rintro e w2 ⟨rfl, hb2⟩
        obtain ⟨hbuf, hbb⟩ := HM.out
        have hbb1 := hbb.alloc hbb.size (.cells #[.int .i64 1, .func (.func 48) #[] #[], .func (.func 49) #[] #[]] 65)
        have hbuf2 := (hbuf.past (.cells #[.int .i64 1, .func (.func 48) #[] #[], .func (.func 49) #[] #[]] 65)).below hb2 (Nat.le_refl _)
        have hbw2 := hbb1.trans (hb2.mono hbb1.size)
        obtain ⟨i0, hi, hz0, hz1, hz2⟩ := info_parts infoStr
        obtain ⟨v', w', hrun, hbuf', hb'⟩ := buf_app1 Tryd.underlying59 hi hz0 hz1 hz2 rfl (by decide) hbuf2 hbw2 (.string (ofL x0)) rfl (by have := fdL_len; simp only [fdL0, fdL1, fdL2, fdL3, List.length_append, List.length_nil]; have := optW_count b1 x0; have := optW_count b2 x1; have := optW_count b4 x2; omega) 9
        obtain ⟨A1, cap1, rfl, -⟩ := hbuf2.src (stV_one _)
        have e9 : stV (fdL0) ++ [.string (ofL x0)] = stV (fdL1 true x0) := by unfold stV; simp [fdL0, fdL1, fdL2, fdL3, fdL4, optW] <;> omega
        have e8 : (fdL0).length + 1 = (fdL1 true x0).length := by simp [fdL0, fdL1, fdL2, fdL3, fdL4, optW] <;> omega
        rw [e9, e8] at hbuf'
        obtain ⟨A2, cap2, rfl, -⟩ := hbuf'.src (stV_one _)
        have HR := Lib.hid hrun
        have H2 := Lib.hid (And.intro hbuf' hb')
        clear hbuf hbb hb2 hbuf2 hbw2 hrun hbuf' hb' e9 hi hz0 hz1 hz2 hbb1 e8
        go_wp2_with (at_builtin; refine wpList_append_run _ rfl (.tmp 18) (.tmp 23) _ _ rfl _ _ rfl rfl _ _ HR.out ?_)
        go_roundw
        case rel => exact .inr (.inl ⟨rfl, H2.out⟩)
        case measure => simp [intOf]
      | false =>
        rw [hb] at Hb1
        have hd := Hb1.out
        have HMB := Lib.hid (hb)
        clear hb
        go_wp2_with fail
        go_roundw
        case rel => exact .inr (.inl ⟨rfl, ⟨by have := HM.out.1.past (.cells #[.int .i64 1, .func (.func 48) #[] #[], .func (.func 49) #[] #[]] 65); simpa [fdL0, fdL1, fdL2, fdL3, fdL4, optW] using this, HM.out.2.alloc HM.out.2.size _⟩⟩)
        case measure => simp [intOf]
    · obtain ⟨hbuf, hbb⟩ := h
      obtain ⟨q0, q1, q2⟩ := prt1 (HG.out.2.1.below hbb HG.out.2.1.lt)
      obtain ⟨⟨c0, c1, c2, c3, c4, c5, c6, c7, c8, c9⟩, -⟩ := Blk.ten (HG.out.1.below hbb HG.out.1.lt)
      have hlt1 : w.heap.size < wr.heap.size := Nat.lt_of_lt_of_le HG.out.1.lt hbb.size
      have hlt2 : w.heap.size + 1 < wr.heap.size := Nat.lt_of_lt_of_le HG.out.2.1.lt hbb.size
      have HM := Lib.hid (And.intro hbuf hbb)
      clear hbuf hbb
      cases hb : b2 with
      | true =>
        rw [hb] at Hb2
        have hd := Hb2.out
        have HMB := Lib.hid (hb)
        clear hb
        go_wp2_with fail
        refine (HT1.out _ ?bel1).mono ?_
        · exact HG.out.2.2.trans ((HM.out.2.alloc HM.out.2.size _).mono HG.out.2.2.size)
        rintro e w2 ⟨rfl, hb2⟩
        obtain ⟨hbuf, hbb⟩ := HM.out
        have hbb1 := hbb.alloc hbb.size (.cells #[.int .i64 2, .func (.func 50) #[] #[], .func (.func 52) #[] #[]] 65)
        have hbuf2 := (hbuf.past (.cells #[.int .i64 2, .func (.func 50) #[] #[], .func (.func 52) #[] #[]] 65)).below hb2 (Nat.le_refl _)
        have hbw2 := hbb1.trans (hb2.mono hbb1.size)
        obtain ⟨i0, hi, hz0, hz1, hz2⟩ := info_parts infoStr
        obtain ⟨v', w', hrun, hbuf', hb'⟩ := buf_app1 Tryd.underlying59 hi hz0 hz1 hz2 rfl (by decide) hbuf2 hbw2 (.string (ofL x1)) rfl (by have := fdL_len; simp only [fdL0, fdL1, fdL2, fdL3, List.length_append, List.length_nil]; have := optW_count b1 x0; have := optW_count b2 x1; have := optW_count b4 x2; omega) 9
        obtain ⟨A1, cap1, rfl, -⟩ := hbuf2.src (stV_one _)
        have e9 : stV (fdL1 b1 x0) ++ [.string (ofL x1)] = stV (fdL2 b1 true x0 x1) := by unfold stV; simp [fdL0, fdL1, fdL2, fdL3, fdL4, optW] <;> omega
        have e8 : (fdL1 b1 x0).length + 1 = (fdL2 b1 true x0 x1).length := by simp [fdL0, fdL1, fdL2, fdL3, fdL4, optW] <;> omega
        rw [e9, e8] at hbuf'
        obtain ⟨A2, cap2, rfl, -⟩ := hbuf'.src (stV_one _)
        have HR := Lib.hid hrun
        have H2 := Lib.hid (And.intro hbuf' hb')
        clear hbuf hbb hb2 hbuf2 hbw2 hrun hbuf' hb' e9 hi hz0 hz1 hz2 hbb1 e8
        go_wp2_with (at_builtin; refine wpList_append_run _ rfl (.tmp 18) (.tmp 23) _ _ rfl _ _ rfl rfl _ _ HR.out ?_)
        go_roundw
        case rel => exact .inr (.inr (.inl ⟨rfl, H2.out⟩))
        case measure => simp [intOf]
      | false =>
        rw [hb] at Hb2
        have hd := Hb2.out
        have HMB := Lib.hid (hb)
        clear hb
        go_wp2_with fail
        go_roundw
        case rel => exact .inr (.inr (.inl ⟨rfl, ⟨by have := HM.out.1.past (.cells #[.int .i64 2, .func (.func 50) #[] #[], .func (.func 52) #[] #[]] 65); simpa [fdL0, fdL1, fdL2, fdL3, fdL4, optW] using this, HM.out.2.alloc HM.out.2.size _⟩⟩))
        case measure => simp [intOf]
    · obtain ⟨hbuf, hbb⟩ := h
      obtain ⟨q0, q1, q2⟩ := prt2 (HG.out.2.1.below hbb HG.out.2.1.lt)
      obtain ⟨⟨c0, c1, c2, c3, c4, c5, c6, c7, c8, c9⟩, -⟩ := Blk.ten (HG.out.1.below hbb HG.out.1.lt)
      have hlt1 : w.heap.size < wr.heap.size := Nat.lt_of_lt_of_le HG.out.1.lt hbb.size
      have hlt2 : w.heap.size + 1 < wr.heap.size := Nat.lt_of_lt_of_le HG.out.2.1.lt hbb.size
      have HM := Lib.hid (And.intro hbuf hbb)
      clear hbuf hbb
      cases hb : b4 with
      | true =>
        rw [hb] at Hb4
        have hd := Hb4.out
        have HMB := Lib.hid (hb)
        clear hb
        go_wp2_with fail
        refine (HT2.out _ ?bel2).mono ?_
        · exact HG.out.2.2.trans ((HM.out.2.alloc HM.out.2.size _).mono HG.out.2.2.size)
        rintro e w2 ⟨rfl, hb2⟩
        obtain ⟨hbuf, hbb⟩ := HM.out
        have hbb1 := hbb.alloc hbb.size (.cells #[.int .i64 4, .func (.func 53) #[] #[], .func (.func 54) #[] #[]] 65)
        have hbuf2 := (hbuf.past (.cells #[.int .i64 4, .func (.func 53) #[] #[], .func (.func 54) #[] #[]] 65)).below hb2 (Nat.le_refl _)
        have hbw2 := hbb1.trans (hb2.mono hbb1.size)
        obtain ⟨i0, hi, hz0, hz1, hz2⟩ := info_parts infoStr
        obtain ⟨v', w', hrun, hbuf', hb'⟩ := buf_app1 Tryd.underlying59 hi hz0 hz1 hz2 rfl (by decide) hbuf2 hbw2 (.string (ofL x2)) rfl (by have := fdL_len; simp only [fdL0, fdL1, fdL2, fdL3, List.length_append, List.length_nil]; have := optW_count b1 x0; have := optW_count b2 x1; have := optW_count b4 x2; omega) 9
        obtain ⟨A1, cap1, rfl, -⟩ := hbuf2.src (stV_one _)
        have e9 : stV (fdL2 b1 b2 x0 x1) ++ [.string (ofL x2)] = stV (fdL3 b1 b2 true x0 x1 x2) := by unfold stV; simp [fdL0, fdL1, fdL2, fdL3, fdL4, optW] <;> omega
        have e8 : (fdL2 b1 b2 x0 x1).length + 1 = (fdL3 b1 b2 true x0 x1 x2).length := by simp [fdL0, fdL1, fdL2, fdL3, fdL4, optW] <;> omega
        rw [e9, e8] at hbuf'
        obtain ⟨A2, cap2, rfl, -⟩ := hbuf'.src (stV_one _)
        have HR := Lib.hid hrun
        have H2 := Lib.hid (And.intro hbuf' hb')
        clear hbuf hbb hb2 hbuf2 hbw2 hrun hbuf' hb' e9 hi hz0 hz1 hz2 hbb1 e8
        go_wp2_with (at_builtin; refine wpList_append_run _ rfl (.tmp 18) (.tmp 23) _ _ rfl _ _ rfl rfl _ _ HR.out ?_)
        go_roundw
        case rel => exact .inr (.inr (.inr (.inl ⟨rfl, H2.out⟩)))
        case measure => simp [intOf]
      | false =>
        rw [hb] at Hb4
        have hd := Hb4.out
        have HMB := Lib.hid (hb)
        clear hb
        go_wp2_with fail
        go_roundw
        case rel => exact .inr (.inr (.inr (.inl ⟨rfl, ⟨by have := HM.out.1.past (.cells #[.int .i64 4, .func (.func 53) #[] #[], .func (.func 54) #[] #[]] 65); simpa [fdL0, fdL1, fdL2, fdL3, fdL4, optW] using this, HM.out.2.alloc HM.out.2.size _⟩⟩)))
        case measure => simp [intOf]
    · obtain ⟨hbuf, hbb⟩ := h
      obtain ⟨q0, q1, q2⟩ := prt3 (HG.out.2.1.below hbb HG.out.2.1.lt)
      obtain ⟨⟨c0, c1, c2, c3, c4, c5, c6, c7, c8, c9⟩, -⟩ := Blk.ten (HG.out.1.below hbb HG.out.1.lt)
      have hlt1 : w.heap.size < wr.heap.size := Nat.lt_of_lt_of_le HG.out.1.lt hbb.size
      have hlt2 : w.heap.size + 1 < wr.heap.size := Nat.lt_of_lt_of_le HG.out.2.1.lt hbb.size
      have HM := Lib.hid (And.intro hbuf hbb)
      clear hbuf hbb
      cases hb : b16 with
      | true =>
        rw [hb] at Hb16
        have hd := Hb16.out
        have HMB := Lib.hid (hb)
        clear hb
        go_wp2_with fail
        refine (HT3.out _ ?bel3).mono ?_
        · exact HG.out.2.2.trans ((HM.out.2.alloc HM.out.2.size _).mono HG.out.2.2.size)
        rintro e w2 ⟨rfl, hb2⟩
        obtain ⟨hbuf, hbb⟩ := HM.out
        have hbb1 := hbb.alloc hbb.size (.cells #[.int .i64 16, .func (.func 55) #[] #[], .func (.func 57) #[] #[]] 65)
        have hbuf2 := (hbuf.past (.cells #[.int .i64 16, .func (.func 55) #[] #[], .func (.func 57) #[] #[]] 65)).below hb2 (Nat.le_refl _)
        have hbw2 := hbb1.trans (hb2.mono hbb1.size)
        obtain ⟨i0, hi, hz0, hz1, hz2⟩ := info_parts infoStr
        obtain ⟨v', w', hrun, hbuf', hb'⟩ := buf_app1 Tryd.underlying59 hi hz0 hz1 hz2 rfl (by decide) hbuf2 hbw2 (.string (ofL x3)) rfl (by have := fdL_len; simp only [fdL0, fdL1, fdL2, fdL3, List.length_append, List.length_nil]; have := optW_count b1 x0; have := optW_count b2 x1; have := optW_count b4 x2; omega) 9
        obtain ⟨A1, cap1, rfl, -⟩ := hbuf2.src (stV_one _)
        have e9 : stV (fdL3 b1 b2 b4 x0 x1 x2) ++ [.string (ofL x3)] = stV (fdL4 b1 b2 b4 true x0 x1 x2 x3) := by unfold stV; simp [fdL0, fdL1, fdL2, fdL3, fdL4, optW] <;> omega
        have e8 : (fdL3 b1 b2 b4 x0 x1 x2).length + 1 = (fdL4 b1 b2 b4 true x0 x1 x2 x3).length := by simp [fdL0, fdL1, fdL2, fdL3, fdL4, optW] <;> omega
        rw [e9, e8] at hbuf'
        obtain ⟨A2, cap2, rfl, -⟩ := hbuf'.src (stV_one _)
        have HR := Lib.hid hrun
        have H2 := Lib.hid (And.intro hbuf' hb')
        clear hbuf hbb hb2 hbuf2 hbw2 hrun hbuf' hb' e9 hi hz0 hz1 hz2 hbb1 e8
        go_wp2_with (at_builtin; refine wpList_append_run _ rfl (.tmp 18) (.tmp 23) _ _ rfl _ _ rfl rfl _ _ HR.out ?_)
        go_roundw
        case rel => exact .inr (.inr (.inr (.inr (⟨rfl, H2.out⟩))))
        case measure => simp [intOf]
      | false =>
        rw [hb] at Hb16
        have hd := Hb16.out
        have HMB := Lib.hid (hb)
        clear hb
        go_wp2_with fail
        go_roundw
        case rel => exact .inr (.inr (.inr (.inr (⟨rfl, ⟨by have := HM.out.1.past (.cells #[.int .i64 16, .func (.func 55) #[] #[], .func (.func 57) #[] #[]] 65); simpa [fdL0, fdL1, fdL2, fdL3, fdL4, optW] using this, HM.out.2.alloc HM.out.2.size _⟩⟩))))
        case measure => simp [intOf]
    · obtain ⟨hbuf, hbb⟩ := h
      have hL : ∀ x ∈ fdL4 b1 b2 b4 b16 x0 x1 x2 x3, x.length ≤ 100100 := fun x hx => by
        unfold fdL4 at hx
        rcases List.mem_append.1 hx with hx | hx
        · exact optW_len _ _ _ (by omega) x hx
        · rcases List.mem_append.1 hx with hx | hx
          · exact optW_len _ _ _ (by omega) x hx
          · rcases List.mem_append.1 hx with hx | hx
            · exact optW_len _ _ _ (by omega) x hx
            · exact optW_len _ _ _ hk3 x hx
      have hLn : (fdL4 b1 b2 b4 b16 x0 x1 x2 x3).length ≤ 4 := by
        have := optW_count b1 x0; have := optW_count b2 x1; have := optW_count b4 x2; have := optW_count b16 x3
        simp only [fdL4, List.length_append]; omega
      have hjl := joinF_len _ 100100 hL
      have hjl2 : (joinF (fdL4 b1 b2 b4 b16 x0 x1 x2 x3)).length ≤ 500000 := by
        have : (fdL4 b1 b2 b4 b16 x0 x1 x2 x3).length * (100100 + 1) ≤ 4 * (100100 + 1) := Nat.mul_le_mul_right _ hLn
        omega
      have HJ := Lib.hid (fun W (hW : Below wr.heap.size wr W) => join_buf _ (fdL4 b1 b2 b4 b16 x0 x1 x2 x3) W w1.heap.size (hbuf.below hW (Nat.le_refl _)) (by omega) (by omega))
      obtain ⟨A1, cap1, rfl, -⟩ := hbuf.src (stV_one _)
      obtain ⟨⟨c0, c1, c2, c3, c4, c5, c6, c7, c8, c9⟩, -⟩ := Blk.ten (HG.out.1.below hbb HG.out.1.lt)
      have HB := Lib.hid (HG.out.2.2.trans (hbb.mono HG.out.2.2.size))
      have hjs : (ofL (joinF (fdL4 b1 b2 b4 b16 x0 x1 x2 x3))).size ≤ 500000 := by rw [ofL_size]; exact hjl2
      clear hbuf hbb hjl hL hjl2
      generalize fdL4 b1 b2 b4 b16 x0 x1 x2 x3 = L at HJ hLn HFL hjs
      generalize joinF L = jn at HJ HFL hjs
      generalize ofL jn = jv at HJ HFL hjs
      go_wp2_with fail
      refine (HD.out _ ?belD).mono ?_
      · exact HB.out
      rintro e w2 ⟨rfl, hb2⟩
      have HB2 := Lib.hid hb2
      clear hb2
      go_wp2_with fail
      refine (HJ.out _ HB2.out).mono ?_
      rintro e w3 ⟨rfl, hb3⟩
      have HB3 := Lib.hid (HB.out.trans ((HB2.out.trans (hb3.mono HB2.out.size)).mono HB.out.size))
      clear hb3
      go_wp2_with fail
      go_ret
      exact ⟨by rw [HFL.out]; rfl, HB3.out⟩
end Go.Proofs.YtgdhakkfddmkjaaDoor
namespace Go.Proofs.YtgdhakkfddmkjaaDoor
open Go.RowKit

def stTab : List (List UInt8) := [[79, 75], [78, 79], [66, 65, 68]]
theorem stV3 : strsV stTab = #[.string ⟨#[79, 75]⟩, .string ⟨#[78, 79]⟩, .string ⟨#[66, 65, 68]⟩] := rfl

set_option maxRecDepth 100000 in
set_option maxHeartbeats 3200000 in
theorem tagged1_any (k st it : Int) (n fl ui sz bl c : Nat) (tg tx : ByteArray) (P : Option Addr) (w : World) (h0 : 0 ≤ st) (h2 : st ≤ 2) (hg : tg.size ≤ 100000) (ht : tx.size ≤ 100000) (hS : StdA w) :
    Calls Tryd.prog 69 #[.agg #[.int .i64 k, .int .u32 n, .string tg, .int .i64 st, .string tx, .int .i64 it, .int .u8 fl, .int .u32 ui, .int .u32 sz, .slice P bl c]] w fun e w' => e = .returned (.string (tg ++ ⟨#[32]⟩ ++ ofL (stW st) ++ ⟨#[32]⟩ ++ tx)) ∧ Below w.heap.size w w' := by
  have HF : Hid (∀ W, Below w.heap.size w W → Calls Tryd.prog 70 #[.string ⟨#[79, 75, 32, 78, 79, 32, 66, 65, 68]⟩] W fun e w' => e = .returned (.slice (some ⟨W.heap.size, 0, none⟩) 3 3) ∧ Blk w' W.heap.size 9 #[.string ⟨#[79, 75]⟩, .string ⟨#[78, 79]⟩, .string ⟨#[66, 65, 68]⟩] ∧ Below W.heap.size W w') := Lib.hid (fun W hW => fields_at ⟨#[79, 75, 32, 78, 79, 32, 66, 65, 68]⟩ stTab W (hS.below hW) (by decide) (by decide) (by decide +kernel))
  clear hS
  have HW : Hid (∀ (W : World) (g : Nat), Blk W g 9 #[.string ⟨#[79, 75]⟩, .string ⟨#[78, 79]⟩, .string ⟨#[66, 65, 68]⟩] → W.cell? ⟨g, st.toNat, none⟩ = some (.string (ofL (stW st)))) := Lib.hid (fun W g h => by
    rw [h.cell]
    obtain rfl | rfl | rfl : st = 0 ∨ st = 1 ∨ st = 2 := by omega
    all_goals rfl)
  have hwl : (ofL (stW st)).size ≤ 3 := by
    obtain rfl | rfl | rfl : st = 0 ∨ st = 1 ∨ st = 2 := by omega
    all_goals decide
  have h3 : st < 3 := by omega
  generalize ofL (stW st) = wd at *
  go_enter Tryd.func69, Tryd.ntmps69
  go_wp2_with fail
  have HB0 : Hid (Below w.heap.size w (w.alloc (.cells #[.int .i64 k, .int .u32 n, .string tg, .int .i64 st, .string tx, .int .i64 it, .int .u8 fl, .int .u32 ui, .int .u32 sz, .slice P bl c] 26)).drew) := Lib.hid (Below.drew ((Below.refl _ _).alloc (Nat.le_refl _) _))
  have HK0 : Hid (Blk (w.alloc (.cells #[.int .i64 k, .int .u32 n, .string tg, .int .i64 st, .string tx, .int .i64 it, .int .u8 fl, .int .u32 ui, .int .u32 sz, .slice P bl c] 26)).drew w.heap.size 26 _) := Lib.hid (Blk.made w _ _)
  have hww := HB0.out.size
  have z1 : ¬ (9223372036854775807 < tg.size + 1) := by omega
  refine wp_region_noPanic ?_
  refine wp_region_held_drew (S := (fun W => W.cell? ⟨w.heap.size, 2, none⟩ = some (.string tg) ∧ W.cell? ⟨w.heap.size, 3, none⟩ = some (.int .i64 st) ∧ W.cell? ⟨w.heap.size, 4, none⟩ = some (.string tx))) (by kernel_rfl) ?_ (fun hHeldA => ?_)
  · first | (dsimp only; (first | exact ⟨c2, c3, c4⟩ | go_keep)) | (first | exact ⟨c2, c3, c4⟩ | go_keep)
  refine wpAnyH_take (i := 0) (v := ?_) rfl (by kernel_rfl) (by kernel_rfl) (by kernel_rfl) (fun _ _ _ h => h) (Or.inl ⟨by rfl, ?_⟩) (by assumption) ?_
  rotate_left
  · intro w hSw
    try dsimp only at hSw
    go_simp
    try with_reducible rfl
  try simp only [List.getElem_toArray, List.getElem_cons_zero, List.getElem_cons_succ, Act.put, List.setIfInBounds_toArray, List.set_cons_zero, List.set_cons_succ]
  refine wpAnyH_take (i := 1) (v := ?_) rfl (by kernel_rfl) (by kernel_rfl) (by kernel_rfl) (fun _ _ _ h => h) (Or.inl ⟨by rfl, ?_⟩) (by assumption) ?_
  rotate_left
  · intro w hSw
    try dsimp only at hSw
    go_simp
    try with_reducible rfl
  try simp only [List.getElem_toArray, List.getElem_cons_zero, List.getElem_cons_succ, Act.put, List.setIfInBounds_toArray, List.set_cons_zero, List.set_cons_succ]
  refine wpAnyH_take (i := 2) (v := ?_) rfl (by kernel_rfl) (by kernel_rfl) (by kernel_rfl) (fun _ _ _ h => h) (Or.inl ⟨by rfl, ?_⟩) (by assumption) ?_
  rotate_left
  · intro w hSw
    try dsimp only at hSw
    go_simp
    try with_reducible rfl
  try simp only [List.getElem_toArray, List.getElem_cons_zero, List.getElem_cons_succ, Act.put, List.setIfInBounds_toArray, List.set_cons_zero, List.set_cons_succ]
  refine wpAnyH_take (i := 4) (v := ?_) rfl (by kernel_rfl) (by kernel_rfl) (by kernel_rfl) (fun _ _ _ h => h) (Or.inl ⟨by rfl, ?_⟩) (by assumption) ?_
  rotate_left
  · intro w hSw
    try dsimp only at hSw
    go_simp
    try with_reducible rfl
  try simp only [List.getElem_toArray, List.getElem_cons_zero, List.getElem_cons_succ, Act.put, List.setIfInBounds_toArray, List.set_cons_zero, List.set_cons_succ]
  refine wpAnyH_take (i := 5) (v := ?_) rfl (by kernel_rfl) (by kernel_rfl) (by kernel_rfl) (fun _ _ _ h => h) (Or.inl ⟨by rfl, ?_⟩) (by assumption) ?_
  rotate_left
  · intro w hSw
    try dsimp only at hSw
    go_simp
    try with_reducible rfl
  try simp only [List.getElem_toArray, List.getElem_cons_zero, List.getElem_cons_succ, Act.put, List.setIfInBounds_toArray, List.set_cons_zero, List.set_cons_succ]
  refine wpAnyH_take (i := 10) (v := ?_) rfl (by kernel_rfl) (by kernel_rfl) (by kernel_rfl) (fun _ _ _ h => h) (Or.inl ⟨by rfl, ?_⟩) (by assumption) ?_
  rotate_left
  · intro w hSw
    try dsimp only at hSw
    go_simp
    try with_reducible rfl
  try simp only [List.getElem_toArray, List.getElem_cons_zero, List.getElem_cons_succ, Act.put, List.setIfInBounds_toArray, List.set_cons_zero, List.set_cons_succ]
  refine wpAnyH_take (i := 11) (v := ?_) rfl (by kernel_rfl) (by kernel_rfl) (by kernel_rfl) (fun _ _ _ h => h) (Or.inl ⟨by rfl, ?_⟩) (by assumption) ?_
  rotate_left
  · intro w hSw
    try dsimp only at hSw
    go_simp
    try with_reducible rfl
  try simp only [List.getElem_toArray, List.getElem_cons_zero, List.getElem_cons_succ, Act.put, List.setIfInBounds_toArray, List.set_cons_zero, List.set_cons_succ]
  refine wpAnyH_ready (rs := [3]) (by kernel_rfl) (by simp) ?_
  refine AllReadyH.cons rfl (fun K hK => ?_) (AllReadyH.nil)
  try simp only [List.getElem_toArray, List.getElem_cons_zero, List.getElem_cons_succ]
  go_simp
  ((go_at_call 70; refine (HF.out _ HB0.out).mono ?_; rintro e w1 ⟨rfl, hq, hb⟩; obtain ⟨⟨c0, c1, c2, c3, c4, c5, c6, c7, c8, c9⟩, -⟩ := Blk.ten (HK0.out.below hb HK0.out.lt); have HB := Lib.hid (HB0.out.trans (hb.mono hww)); have hq2 : Blk w1 (World.alloc w _).heap.size _ _ := hq; rw [World.size_alloc] at hq2; have d := HW.out _ _ hq2; clear hb hq hq2))
  first | (with_reducible refine hK.out _ _ ?_ (fun hHeldB => ?_)) | (go_wp2_with fail; refine hK.out _ _ ?_ (fun hHeldB => ?_))
  · first | (dsimp only; (first | exact ⟨c2, c3, c4⟩ | go_keep)) | (first | exact ⟨c2, c3, c4⟩ | go_keep)
  clear hK K hHeldA
  try simp only [Act.put, List.setIfInBounds_toArray, List.set_cons_zero, List.set_cons_succ]
  refine wpAnyH_take (i := 6) (v := ?_) rfl (by kernel_rfl) (by kernel_rfl) (by kernel_rfl) (fun _ _ _ h => h) (Or.inl ⟨by rfl, ?_⟩) (by assumption) ?_
  rotate_left
  · intro w hSw
    try dsimp only at hSw
    go_simp
    try with_reducible rfl
  try simp only [List.getElem_toArray, List.getElem_cons_zero, List.getElem_cons_succ, Act.put, List.setIfInBounds_toArray, List.set_cons_zero, List.set_cons_succ]
  refine wpAnyH_ready (rs := [7]) (by kernel_rfl) (by simp) ?_
  refine AllReadyH.cons rfl (fun K hK => ?_) (AllReadyH.nil)
  try simp only [List.getElem_toArray, List.getElem_cons_zero, List.getElem_cons_succ]
  go_simp
  first | (with_reducible refine hK.out _ _ ?_ (fun hHeldA => ?_)) | (go_wp2_with fail; refine hK.out _ _ ?_ (fun hHeldA => ?_))
  · first | (dsimp only; (first | exact ⟨c2, c3, c4⟩ | go_keep)) | (first | exact ⟨c2, c3, c4⟩ | go_keep)
  clear hK K hHeldB
  try simp only [Act.put, List.setIfInBounds_toArray, List.set_cons_zero, List.set_cons_succ]
  refine wpAnyH_ready (rs := [8]) (by kernel_rfl) (by simp) ?_
  refine AllReadyH.cons rfl (fun K hK => ?_) (AllReadyH.nil)
  try simp only [List.getElem_toArray, List.getElem_cons_zero, List.getElem_cons_succ]
  go_simp
  first | (with_reducible refine hK.out _ _ ?_ (fun hHeldB => ?_)) | (go_wp2_with fail; refine hK.out _ _ ?_ (fun hHeldB => ?_))
  · first | (dsimp only; (first | exact ⟨c2, c3, c4⟩ | go_keep)) | (first | exact ⟨c2, c3, c4⟩ | go_keep)
  clear hK K hHeldA
  try simp only [Act.put, List.setIfInBounds_toArray, List.set_cons_zero, List.set_cons_succ]
  refine wpAnyH_ready (rs := [9]) (by kernel_rfl) (by simp) ?_
  refine AllReadyH.cons rfl (fun K hK => ?_) (AllReadyH.nil)
  try simp only [List.getElem_toArray, List.getElem_cons_zero, List.getElem_cons_succ]
  go_simp
  first | (with_reducible refine hK.out _ _ ?_ (fun hHeldA => ?_)) | (go_wp2_with fail; refine hK.out _ _ ?_ (fun hHeldA => ?_))
  · first | (dsimp only; (first | exact ⟨c2, c3, c4⟩ | go_keep)) | (first | exact ⟨c2, c3, c4⟩ | go_keep)
  clear hK K hHeldB
  try simp only [Act.put, List.setIfInBounds_toArray, List.set_cons_zero, List.set_cons_succ]
  refine wpAnyH_ready (rs := [12]) (by kernel_rfl) (by simp) ?_
  refine AllReadyH.cons rfl (fun K hK => ?_) (AllReadyH.nil)
  try simp only [List.getElem_toArray, List.getElem_cons_zero, List.getElem_cons_succ]
  go_simp
  first | (with_reducible refine hK.out _ _ ?_ (fun hHeldB => ?_)) | (go_wp2_with fail; refine hK.out _ _ ?_ (fun hHeldB => ?_))
  · first | (dsimp only; (first | exact ⟨c2, c3, c4⟩ | go_keep)) | (first | exact ⟨c2, c3, c4⟩ | go_keep)
  clear hK K hHeldA
  try simp only [Act.put, List.setIfInBounds_toArray, List.set_cons_zero, List.set_cons_succ]
  refine wpAnyH_take (i := 13) (v := ?_) rfl (by kernel_rfl) (by kernel_rfl) (by kernel_rfl) (fun _ _ _ h => h) (Or.inl ⟨by rfl, ?_⟩) (by assumption) ?_
  rotate_left
  · intro w hSw
    try dsimp only at hSw
    go_simp
    try with_reducible rfl
  try simp only [List.getElem_toArray, List.getElem_cons_zero, List.getElem_cons_succ, Act.put, List.setIfInBounds_toArray, List.set_cons_zero, List.set_cons_succ]
  refine wpAnyH_done (by kernel_rfl) ?_ _
  refine NoPanic.normal ?_
  all_goals
    go_wp2_with fail
    go_ret
    exact ⟨rfl, HB.out⟩
end Go.Proofs.YtgdhakkfddmkjaaDoor
