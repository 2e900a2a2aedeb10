/- The walk of the law FrameFeeds. -/
import Derived.Test.YtllboenffepcgaaDoorFeed1
set_option linter.unusedVariables false
set_option linter.unusedSimpArgs false
namespace Go.Proofs.YtllboenffepcgaaDoor
open Go.RowKit

/-- The argument's parts in memory. -/
def Parts (w : World) (pp : Option Addr) (L : List (List UInt8)) : Prop := ∀ k P, L[k]? = some P → ∃ g o px cx, pp = some ⟨g, o, none⟩ ∧ g < w.heap.size ∧ w.cell? ⟨g, o + k, none⟩ = some (.slice px P.length cx) ∧ Bys w w.heap.size px P
/-- Between two parts. -/
def FeedAt (w : World) (av gv : Value) (m : Nat) (wr : World) : Prop := ∃ pa ca A fs r b p, av = .slice pa m ca ∧ A.length = m ∧ m ≤ 3000 ∧ FF w w.heap.size wr av A gv fs r b p ∧ Run A 0 fs b p ∧ stepF b p = .wait

set_option maxRecDepth 100000 in
set_option maxHeartbeats 6400000 in
theorem frameFeeds_walk (pp : Option Addr) (cp : Nat) (L : List (List UInt8)) (w : World) (hP : Parts w pp L) (hc : L.length ≤ cp) (hPl : ∀ P ∈ L, P.length ≤ 140737488351232) (hS : Std w) (hM : StdM w) :
    Calls Tryd.prog 3 #[.slice pp L.length cp] w fun e w' => e = .returned (.bool true) ∧ Below w.heap.size w w' := by
  have HA := Lib.hid (fun W (hb : Below w.heap.size w W) => alive05_walk W (hS.below hb) (hM.below hb))
  have HP := Lib.hid (And.intro hP (And.intro hS (And.intro hM hPl)))
  clear hP hS hM hPl
  by_cases hla : 60 < L.length
  · have t1 : (60 : Int) < L.length := by omega
    clear hla
    generalize L.length = n at *
    go_enter Tryd.func3, Tryd.ntmps3
    go_wp2_with fail
    refine (HA.out _ (Below.refl _ _)).mono ?_
    rintro e w1 ⟨rfl, hb⟩
    have HB := Lib.hid hb
    clear hb
    go_wp2_with fail
    go_ret
    exact ⟨rfl, HB.out⟩
  · have t1 : decide ((60 : Int) < L.length) = false := decide_eq_false (by omega)
    have t1' : decide (60 < L.length) = false := decide_eq_false (by omega)
    generalize hn : L.length = n at *
    have HNM := Lib.hid (And.intro hn (show n ≤ 60 by omega))
    clear hn hla
    have hn1 : (n : Int) ≤ cp := by omega
    go_enter Tryd.func3, Tryd.ntmps3
    go_wp2_with fail
    refine (new_any w).mono ?_
    rintro e w1 ⟨rfl, s1, hb1⟩
    have HB1 := Lib.hid (And.intro hb1 s1)
    clear hb1 s1
    go_wp2_with fail
    go_loopw [4, 5, 21] (fun av gv i wr => ∃ k m : Nat, k ≤ n ∧ i = .int .i64 k ∧ FeedAt w av gv m wr) (fun _ _ i _ => n - (intOf i).toNat)
    case atStart =>
      exact ⟨0, 0, Nat.zero_le _, rfl, none, 0, [], [], none, [], 0, rfl, rfl, by omega, ⟨HB1.out.1, Nat.le_refl _, HB1.out.2, (fun g e => by cases e), Buf.nil _ _ _, (fun k e => by cases e), OutF.nil _ _⟩, .refl _ _, stepF_none rfl⟩
    case round =>
      obtain ⟨k, m, hk, rfl, hat⟩ := hrel
      obtain ⟨wo, rfl⟩ : ∃ wo : World, wo = wr := ⟨_, rfl⟩
      have HAT := Lib.hid hat
      have hbr : Below w.heap.size w wo := by
        obtain ⟨_, _, _, _, _, _, _, _, _, _, hf, _⟩ := hat
        exact hf.below
      by_cases hlt : k < n
      · obtain ⟨P, hPk⟩ : ∃ P, L[k]? = some P := ⟨_, List.getElem?_eq_getElem (by have := HNM.out.1; omega)⟩
        obtain ⟨g, o, px, cx, rfl, hg, hcell, hy⟩ := HP.out.1 k P hPk
        obtain ⟨pa, ca, A, fs, r, b, p, rfl, hAm, hm3, hff, hrun, hw⟩ := hat
        have hcw : wo.cell? ⟨g, o + k, none⟩ = some (.slice px P.length cx) := (hbr.cell (p := ⟨g, o + k, none⟩) hg).trans hcell
        have hk0 : (0 : Int) ≤ k := by omega
        have hk60 : (k : Int) ≤ 60 := by have := HNM.out.2; omega
        have hk1 : (k : Int) < n := by omega
        have hm1 : (m : Int) ≤ 3000 := by omega
        have HY := Lib.hid hy
        have HBR := Lib.hid hbr
        by_cases hbig : 3000 < m + P.length
        · obtain ⟨pl, hpl⟩ : ∃ pl, P.length = pl := ⟨_, rfl⟩
          rw [hpl] at hcw hbig
          have t2 : (3000 : Int) < (m : Int) + pl := by omega
          have t3 : (pl : Int) ≤ 140737488351232 := by have := HP.out.2.2.2 P (List.mem_of_getElem? hPk); omega
          clear hpl hbig hff hrun hw hAm hcell hPk hy hbr
          go_wp2_with fail
          refine (HA.out _ HBR.out).mono ?_
          rintro e w2 ⟨rfl, hb⟩
          have HB := Lib.hid (bcall HBR.out hb)
          clear hb
          go_wp2_with fail
          go_ret
          exact ⟨rfl, HB.out⟩
        · obtain ⟨pl, hpl⟩ : ∃ pl, P.length = pl := ⟨_, rfl⟩
          obtain ⟨M, hM⟩ : ∃ M, m + pl = M := ⟨_, rfl⟩
          have hMI : (m : Int) + pl = M := by omega
          have hM3 : M ≤ 3000 := by omega
          have hyr : Bys wo wo.heap.size px P := (hy.below hbr).more hbr.size
          obtain ⟨po, co, w2, hr1, hco, hbuf1, hb2⟩ := own_copy wo px cx P hyr (by omega)
          have hwrt : Wrt w2 wo.heap.size w2.heap.size po pl := by rw [← hpl]; exact Wrt.of_buf hbuf1 rfl
          have hbo : Bys w2 w2.heap.size po P := (Buf.at_once hbuf1).1
          have hff2 := hff.keep hb2
          have hgl := hff.got.own_lt'
          have HF := Lib.hid (feed_any w.heap.size r b p po P co w2 hff2.spl hbo (by have := hrun.rest; omega))
          rw [hpl] at hcw hr1 HF
          have HR1 := Lib.hid hr1
          have t2 : decide ((3000 : Int) < (m : Int) + pl) = false := decide_eq_false (by omega)
          have t3 : decide ((3000 : Int) < M) = false := decide_eq_false (by omega)
          have t4 : (pl : Int) ≤ 3000 := by omega
          have HS := Lib.hid (And.intro hff (And.intro hff2 (And.intro hwrt (And.intro hrun (And.intro hw (And.intro hAm (And.intro hpl (And.intro hM hb2))))))))
          clear hff hff2 hwrt hrun hw hAm hpl hbuf1 hb2 hr1 hbo hyr hcell hPk hy hbr hM hgl hco hbig
          go_wp2_with (at_builtin; refine wpList_append_run _ rfl (.tmp 32) (.tmp 33) _ _ rfl _ _ rfl rfl _ _ HR1.out ?_)
          refine HF.out.mono ?_
          rintro e w3 ⟨⟨v3, rfl⟩, r3, s3, hr3, k3, o3, tp3, ou3⟩
          obtain ⟨hff, hff2, hwrt, hrun, hw, hAm, hpl, hMM, hb2⟩ := HS.out
          have hff3 := ff_feed hff2 s3 hr3 k3 o3 tp3 ou3
          have hszs := hff.spl.lt
          have hrowr := fun g (e : r = some g) => (hff.spl.row e).1
          have hrow3 : ∀ g, r3 = some g → g < wo.heap.size ∨ w2.heap.size ≤ g := fun g e => by
            rcases hr3 with e2 | ⟨g', e2, h⟩
            · rw [e2] at e; exact .inl (hrowr g e)
            · rw [e2] at e; injection e with e; exact .inr (by omega)
          have hwrt3 : Wrt w3 wo.heap.size w2.heap.size po pl := fun h0 => by
            obtain ⟨b', o', e1, h1, h2, h3⟩ := hwrt h0
            have hh := k3.2 b' h2 ⟨by omega, fun e => by have := hrowr b' e; omega⟩
            exact ⟨b', o', e1, h1, h2, fun i hi => by
              obtain ⟨u, c1, c2⟩ := h3 i hi
              exact ⟨u, by rw [World.cell?_of_block (a := ⟨b', o' + i, none⟩) hh]; exact c1, by rw [World.frozen?_of_block (a := ⟨b', o' + i, none⟩) hh]; exact c2⟩⟩
          have hav3 : ∀ k, (Value.slice pa m ca).ownBlock = some k → k < wo.heap.size := hff.all.own_lt
          have hg3 : OutF w3 (fun k => k < wo.heap.size) u5 fs := ((hff.got.keep (KeptOn.refl _ _) (fun k hk ho => (⟨hk, ho⟩ : k < wo.heap.size ∧ okG w.heap.size w.heap.size r (.slice pa m ca) k))).keep (KeptOn.below hb2) (fun _ _ h => h)).keep (k3.of fun k _ ho => ⟨ho.2.2.1, ho.2.2.2.1⟩) (fun _ _ h => h.1)
          have H3 := Lib.hid (And.intro hff3 (And.intro hrow3 (And.intro hav3 (And.intro hg3 (And.intro hwrt3 (And.intro hb2.size k3.1))))))
          clear hff hff2 hwrt hrun hw hAm hpl hMM hb2 hff3 hszs hrowr hrow3 hwrt3 hav3 hg3 s3 hr3 k3 o3 tp3 ou3
          go_wp2_with fail
          go_loopw [40] (fun i wr => ∃ j : Nat, j ≤ pl ∧ i = .int .i64 j ∧ Wrt wr wo.heap.size w2.heap.size po pl ∧ Apart wo.heap.size w2.heap.size w3 wr) (fun i _ => pl - (intOf i).toNat)
          case atStart => exact ⟨0, Nat.zero_le _, rfl, H3.out.2.2.2.2.1, Apart.refl _ _ _⟩
          case round =>
            obtain ⟨j, hj, rfl, hwz, hap⟩ := hrel
            by_cases hjl : j < pl
            · obtain ⟨g2, o2, rfl, h1, h2, h3⟩ := hwz (by omega)
              obtain ⟨u, hu, hf⟩ := h3 j hjl
              have HK : Hid (∀ v : Int, Wrt (wr.setCell ⟨g2, o2 + j, none⟩ (.int .u8 v)) wo.heap.size w2.heap.size (some ⟨g2, o2, none⟩) pl ∧ Apart wo.heap.size w2.heap.size w3 (wr.setCell ⟨g2, o2 + j, none⟩ (.int .u8 v))) := Lib.hid fun v => ⟨hwz.put v, hap.put h1 h2 _ _⟩
              have hj0 : (0 : Int) ≤ j := by omega
              have hj1 : (j : Int) < pl := by omega
              clear hwz hap h1 h2 h3
              go_wp2_with fail
              go_roundw
              case rel => exact ⟨j + 1, by omega, by go_num, HK.out _⟩
              case measure => simp [intOf]; omega
            · have hj1 : ¬ (j : Int) < pl := by omega
              obtain ⟨hff3, hrow3, hav3, hg3, -, hz2, hz3⟩ := H3.out
              obtain ⟨hff, -, -, hrun, hw, hAm, hpl, hMM, -⟩ := HS.out
              have hff4 := hff3.apart hap hff.below.size (by have := hff.spl.lt; exact this) hrow3 hav3 hg3
              have hPr : Bys wr wr.heap.size px P := (HY.out.below hff4.below).more hff4.below.size
              obtain ⟨pa5, ca5, w5, hr5, hff5⟩ := ff_all (cp := cx) hff4 hPr (by omega)
              rw [hAm, hpl, hMM] at hr5 hff5
              have hrun5 : Run (A ++ P) 0 fs (b ++ P) p := hrun.app P
              have hlow : Low w w5 w.heap.size := ⟨hff5.below, Nat.le_refl _, HP.out.2.1, HP.out.2.2.1⟩
              have hAP : (A ++ P).length = M := by rw [List.length_append]; omega
              have hbl := hrun5.rest
              have HD := Lib.hid (drain_any w w.heap.size r3 (b ++ P) p (M + 1) w5 hff5.spl (by omega) (by omega) (by omega) hlow)
              rw [show (((M + 1 : Nat)) : Int) = (M : Int) + 1 by omega] at HD
              have HR5 := Lib.hid hr5
              have hfc := hrun5.count
              have H5 := Lib.hid (And.intro hff5 (And.intro hrun5 (And.intro hAP hfc)))
              clear hff3 hrow3 hav3 hg3 hz2 hz3 hff hrun hw hAm hpl hMM hff4 hPr hr5 hff5 hrun5 hlow hAP hbl hfc hwz hap
              have hM0 : (M : Int) ≤ 3000 := by omega
              go_wp2_with (at_builtin; refine wpList_append_run _ rfl (.tmp 50) (.tmp 51) _ _ rfl _ _ rfl rfl _ _ HR5.out ?_)
              refine HD.out.mono ?_
              rintro e w6 ⟨vd, md, r6, b6, p6, rfl, ⟨fs2, e1, e2, e3, e4, e5, e6, e7⟩, e8⟩
              obtain ⟨hff5, hrun5, hAP, hfc⟩ := H5.out
              have hff6 := ff_drain hff5 e5 e3 e6
              have hrun6 := hrun5.trans e2
              have hc2 := e2.count
              have hbl := hrun5.rest
              have hs5 := hff5.spl.lt
              have ha5 := hff5.all.own_lt
              have hg5 := hff5.got.own_lt'
              obtain ⟨gv7, w7, hr7, hff7⟩ := ff_got hff6 e4 hff5.below.size hs5 ha5 hg5 (by omega)
              obtain ⟨hy7, hca7, hpn7⟩ := Buf.at_once (c := ca5) (p := pa5) (l := A ++ P) (by have := hff7.all; rw [← hAP] at this; exact this)
              have hca5 : M ≤ ca5 := by omega
              have HS8 := Lib.hid ((rSplit_any (A ++ P) pa5 ca5 w7 hy7 (by omega) hca7 hpn7).mono fun x w' h => spl_at h hrun6 e8)
              rw [hAP] at HS8
              have HR7 := Lib.hid hr7
              have hdat : ∀ f ∈ fs ++ fs2, f.data.length ≤ 1048576 := fun f hf => by have := hrun6.data f hf; omega
              have hfc6 := hrun6.count
              have H7 := Lib.hid (And.intro hff7 (And.intro hrun6 (And.intro hdat (And.intro hAP (And.intro e8 hfc6)))))
              clear hff5 hrun5 hAP hfc hff6 hrun6 hc2 hbl hs5 ha5 hg5 hr7 hff7 hy7 hca7 hpn7 hca5 hdat hfc6 e1 e2 e3 e4 e5 e6 e7 e8
              go_wp2_with (at_builtin; refine wpList_append_run _ rfl (.tmp 53) (.tmp 58) _ _ rfl _ _ rfl rfl _ _ HR7.out ?_)
              refine HS8.out.mono ?_
              rintro e w8 ⟨vr, rfl, o8, hb8⟩
              obtain ⟨hff7, hrun6, hdat, hAP, -, hfc6⟩ := H7.out
              have hff8 := hff7.keep hb8
              have HSM := Lib.hid (same_any gv7 vr (fs ++ fs2) _ _ w8 hff8.got o8 hdat (by omega))
              have H8 := Lib.hid hff8
              clear hff7 hrun6 hdat hAP hff8 o8 hb8 hfc6
              go_wp2_with fail
              refine HSM.out.mono ?_
              rintro e w9 ⟨rfl, hb9⟩
              have hff9 := H8.out.keep hb9
              have HLF := Lib.hid (left_any w.heap.size r6 b6 p6 w9 hff9.spl)
              have H9 := Lib.hid hff9
              clear hff9 hb9
              go_wp2_with fail
              refine HLF.out.mono ?_
              rintro e w10 ⟨rfl, rfl⟩
              go_wp2_with fail
              go_roundw
              case rel => exact ⟨k + 1, M, by omega, by go_num, pa5, ca5, A ++ P, fs ++ fs2, r6, b6, p6, rfl, H7.out.2.2.2.1, hM3, H9.out, H7.out.2.1, H7.out.2.2.2.2.1⟩
              case measure => simp [intOf]; omega
      · have hk1 : ¬ (k : Int) < n := by omega
        have HBR := Lib.hid hbr
        clear hat hbr
        go_wp2_with fail
        refine (HA.out _ HBR.out).mono ?_
        rintro e w2 ⟨rfl, hb⟩
        have HB := Lib.hid (bcall HBR.out hb)
        clear hb
        go_wp2_with fail
        go_ret
        exact ⟨rfl, HB.out⟩
end Go.Proofs.YtllboenffepcgaaDoor
