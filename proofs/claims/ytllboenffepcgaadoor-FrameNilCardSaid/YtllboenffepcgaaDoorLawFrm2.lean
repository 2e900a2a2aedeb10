/- The walk of the law FrameNil. -/
import Derived.Test.YtllboenffepcgaaDoorLawFrm1
set_option linter.unusedVariables false
set_option linter.unusedSimpArgs false
namespace Go.Proofs.YtllboenffepcgaaDoor
open Go.RowKit

set_option maxRecDepth 100000 in
set_option maxHeartbeats 800000 in
theorem eqFunc_nil (p q : Option Addr) (c d : Nat) (w : World) :
    Calls Tryd.prog 20 #[.slice p 0 c, .slice q 0 d, .func (.func 21) #[] #[]] w fun e w' => e = .returned (.bool true) ∧ w = w' := by
  go_enter Tryd.func20, Tryd.ntmps20
  go_wp2_with fail
  go_loop [17] (fun i => i = .int .i64 0) (fun _ => 0)
  case atStart => rfl
  case round =>
    subst hrel
    go_wp2_with fail
    go_ret
    exact ⟨rfl, rfl⟩
set_option maxRecDepth 100000 in
set_option maxHeartbeats 400000 in
theorem same_nil (p q : Option Addr) (c d : Nat) (w : World) :
    Calls Tryd.prog 13 #[.slice p 0 c, .slice q 0 d] w fun e w' => e = .returned (.bool true) ∧ w = w' := by
  have H := Lib.hid (eqFunc_nil p q c d w)
  go_enter Tryd.func13, Tryd.ntmps13
  go_wp2_with fail
  refine H.out.mono ?_
  rintro x w' ⟨rfl, rfl⟩
  go_wp2_with fail
  go_ret
  exact ⟨rfl, rfl⟩
/-- A frame's bytes may be written. -/
theorem BysL.wrt {W : World} {ok : Nat → Prop} {p : Option Addr} {l : List UInt8} {lo : Nat} (h : BysL W ok p l) (hlo : ∀ k, ok k → lo ≤ k) : Wrt W lo W.heap.size p l.length := fun h0 => by
  obtain ⟨b, o, e, h1, h2, h3⟩ := h h0
  exact ⟨b, o, e, hlo b h1, h2, fun i hi => ⟨_, (h3 i hi).1, (h3 i hi).2⟩⟩
/-- All frames but the first. -/
theorem OutF.rest {W : World} {ok : Nat → Prop} {g off cv : Nat} {f : Frm} {fs : List Frm} (h : OutF W ok (.slice (some ⟨g, off, none⟩) (fs.length + 1) cv) (f :: fs)) : OutF W ok (.slice (some ⟨g, off + 2, none⟩) fs.length (cv - 1)) fs ∧ (fs.length = 0 → OutF W ok (.slice (some ⟨g, off, none⟩) 0 0) fs) := by
  obtain ⟨xs, hb, hf, hv⟩ := h
  obtain ⟨pv, c2, ys, rfl, hb1, hf2⟩ := hf
  have hlen := hf2.len
  rcases hb.2 with ⟨e, _⟩ | ⟨g', off', cap, e, h1, h2, h3, h4, h5⟩
  · cases e
  · injection e with e1 e2 e3
    injection e1 with e1
    injection e1 with e1 e4 e5
    subst e1 e4 e3
    have h3' : fs.length + 1 ≤ cv := h3
    refine ⟨⟨ys, ⟨hlen, .inr ⟨g, off + 2, cv - 1, rfl, h1, h2, by omega, fun j u hj => ?_, fun j hj => ?_⟩⟩, hf2, hv⟩, fun h0 => ?_⟩
    · have := h4 (j + 2) u (by simpa using hj)
      rw [show off + 2 + j = off + (j + 2) by omega]; exact this
    · have := h5 (j + 2) (by omega)
      rw [show off + 2 + j = off + (j + 2) by omega]; exact this
    · have hnil : fs = [] := List.eq_nil_of_length_eq_zero h0
      subst hnil
      have hy : ys = [] := List.eq_nil_of_length_eq_zero (by simpa using hlen)
      subst hy
      exact ⟨[], ⟨rfl, .inr ⟨g, off, 0, rfl, h1, h2, Nat.le_refl _, fun j u hj => by simp at hj, fun j hj => by omega⟩⟩, rfl, hv⟩
/-- The first call of Next in FrameNil: the frame's bytes may be written without touching the splitter. -/
theorem nil_next {w2 w3 : World} {s : Nat} {r : Option Nat} {b : List UInt8} {x : Ending} (h : NxPost w2 s r b (stepF b 0) 0 x w3) (hs : s < w2.heap.size) (hrl : ∀ g, r = some g → g < w2.heap.size) : ∃ kd pv n cv okb r' b' p' hd, x = .returned (.tuple #[.agg #[.int .i64 kd, .slice pv n cv], .bool okb]) ∧ w2.grownBy w3 (some s) ∧ Spl w3 s r' b' p' ∧ n ≤ b.length ∧ Wrt w3 w2.heap.size w3.heap.size pv n ∧ (∀ g o, 0 < n → pv = some ⟨g, o, none⟩ → r' ≠ some g) ∧ b'.length ≤ b.length ∧
    Run b 0 hd b' p' ∧ (∀ g, r' = some g → g < w3.heap.size) ∧ ((hd = [] ∧ stepF b' p' = .wait) ∨ ∃ f, hd = [f]) := by
  obtain ⟨hg, hn⟩ := h
  cases hst : stepF b 0 with
  | wait =>
    rw [hst] at hn
    exact ⟨0, none, 0, 0, false, r, b, 0, [], hn.1, hg, hn.2, Nat.zero_le _, fun h => absurd h (by omega), fun _ _ h => absurd h (by omega), Nat.le_refl _, .refl _ _, fun g e => (hn.2.row e).1, .inl ⟨rfl, hst⟩⟩
  | ready a n =>
    rw [hst] at hn
    exact ⟨2, none, 0, 0, true, r, b, a + n, [⟨2, []⟩], hn.1, hg, hn.2, Nat.zero_le _, fun h => absurd h (by omega), fun _ _ h => absurd h (by omega), Nat.le_refl _, Run.one_ready hst, fun g e => (hn.2.row e).1, .inr ⟨_, rfl⟩⟩
  | done f k =>
    rw [hst] at hn
    obtain ⟨pv, c, r', rfl, h1, h2, h3⟩ := hn
    have hdat := (Run.one_done hst).data f (by simp)
    refine ⟨f.kind, pv, f.data.length, c, true, r', b.drop k, 0, [f], rfl, hg, h2, hdat, h1.wrt (fun k h => h.1), fun g o h0 e => ?_, by rw [List.length_drop]; omega, Run.one_done hst, fun g e => (h2.row e).1, .inr ⟨_, rfl⟩⟩
    obtain ⟨b', o', e1, ⟨h4, h5⟩, -⟩ := h1 h0
    rw [e] at e1
    injection e1 with e1
    injection e1 with e1
    subst e1
    exact h5

set_option maxRecDepth 100000 in
set_option maxHeartbeats 3200000 in
theorem frameNil_walk (p : Option Addr) (c : Nat) (b : List UInt8) (w : World) (hp : Bys w w.heap.size p b) (hc : b.length ≤ c) (hpn : p = none → b.length = 0 ∧ c = 0) (hS : Std w) (hM : StdM w) :
    Calls Tryd.prog 4 #[.slice p b.length c] w fun e w' => e = .returned (.bool true) ∧ Below w.heap.size w w' := by
  have HA := Lib.hid (fun W (hb : Below w.heap.size w W) => alive05_walk W (hS.below hb) (hM.below hb))
  by_cases hla : 1000 < b.length
  · have t1 : (1000 : Int) < b.length := by omega
    clear hp hS hM hla
    generalize b.length = n at *
    go_enter Tryd.func4, Tryd.ntmps4
    go_wp2_with fail
    refine (HA.out _ (Below.refl _ _)).mono ?_
    rintro e w1 ⟨rfl, hb⟩
    have HB := Lib.hid hb
    clear hb
    go_wp2_with fail
    go_ret
    exact ⟨rfl, HB.out⟩
  · have t1 : decide ((1000 : Int) < b.length) = false := decide_eq_false (by omega)
    have t1' : decide (1000 < b.length) = false := decide_eq_false (by omega)
    have H2 := Lib.hid (fun W (hb : Below w.heap.size w W) => rSplit_any b p c W ((hp.below hb).more hb.size) (by omega) hc (fun e => (hpn e).2))
    have HF := Lib.hid (fun W s (h : Spl W s none [] 0) (hb : Below w.heap.size w W) => feed_any s none [] 0 p b c W h ((hp.below hb).more hb.size) (by simp only [List.length_nil]; omega))
    have HX := Lib.hid (And.intro hS (And.intro hM (show b.length ≤ 1000 by omega)))
    have hnl : (b.length : Int) ≤ 1000 := by omega
    clear hp hS hM hla hpn hc
    generalize hn : b.length = n at *
    have HNM := Lib.hid hn
    clear hn
    go_enter Tryd.func4, Tryd.ntmps4
    go_wp2_with fail
    refine (new_any w).mono ?_
    rintro e w1 ⟨rfl, s1, hb1⟩
    have HB1 := Lib.hid (And.intro hb1 s1)
    clear hb1 s1
    go_wp2_with fail
    refine (HF.out _ _ HB1.out.2 HB1.out.1).mono ?_
    rintro e w2 ⟨⟨v0, rfl⟩, r, s2, hr, hk, ho1, ho2, ho3⟩
    have hb2 : Below w.heap.size w w2 := ⟨ho1.trans HB1.out.1.os, ho2.trans HB1.out.1.tape, ho3.trans HB1.out.1.output, Nat.le_trans HB1.out.1.size hk.1, fun k hk2 => (hk.2 k (Nat.lt_of_lt_of_le hk2 HB1.out.1.size) ⟨by omega, fun e => by cases e⟩).trans (HB1.out.1.block k hk2)⟩
    rw [List.nil_append] at s2
    have hlow : Low w w2 w.heap.size := ⟨hb2, Nat.le_refl _, HX.out.1, HX.out.2.1⟩
    have HN := Lib.hid ((next_any w w.heap.size r b 0 w2 s2 (by have := HX.out.2.2; have := HNM.out; omega) hlow).mono fun x w3 hx => nil_next hx s2.lt (fun g e => (s2.row e).1))
    have HB2 := Lib.hid (And.intro hlow s2)
    clear s2 hr hk ho1 ho2 ho3 hb2 hlow
    go_wp2_with fail
    refine HN.out.mono ?_
    rintro e w3 ⟨kd, pv, m, cv, okb, r', b', p', hd, rfl, k1, k2, k3, k4, k5, k6, k7, k8, k9⟩
    have hlow3 := HB2.out.1.grown k1
    have hm1 : (m : Int) ≤ 1000 := by have := HX.out.2.2; have := HNM.out; omega
    have HB3 := Lib.hid (And.intro hlow3 (And.intro k2 (And.intro k3 (And.intro k4 (And.intro k5 (And.intro k6 (And.intro k7 (And.intro k8 (And.intro k9 (And.intro k1.size HB2.out.2.lt))))))))))
    clear hlow3 k1 k2 k3 k4 k5 k6 k7 k8 k9
    go_wp2_with fail
    go_loopw [31] (fun i wr => ∃ k : Nat, k ≤ m ∧ i = .int .i64 k ∧ Blk wr w3.heap.size 37 #[.int .i64 kd, .slice pv m cv] ∧ Spl wr w.heap.size r' b' p' ∧ Low w wr w.heap.size ∧ Wrt wr w2.heap.size w3.heap.size pv m) (fun i _ => m - (intOf i).toNat)
    case atStart =>
      obtain ⟨k0, k1, k2, k3, -⟩ := HB3.out
      have hb : Below w3.heap.size w3 (w3.alloc (.cells #[.int .i64 kd, .slice pv m cv] 37)) := (Below.refl _ _).alloc (Nat.le_refl _) _
      exact ⟨0, Nat.zero_le _, rfl, Blk.made _ _ _, k1.below hb, k0.below hb, k3.keep hb (Nat.le_refl _)⟩
    case round =>
      obtain ⟨k, hk, rfl, hbk, hsp, hlw, hwr⟩ := hrel
      obtain ⟨c0, c1, -, -⟩ := blk2 hbk
      by_cases hlt : k < m
      · obtain ⟨g, o, rfl, h1, h2, h3⟩ := hwr (by omega)
        obtain ⟨u, hu, hf⟩ := h3 k hlt
        have hne := HB3.out.2.2.2.2.1 g o (by omega) rfl
        have hsz := HB3.out.2.2.2.2.2.2.2.2.2
        have HK : Hid (∀ v : Int, Blk (wr.setCell ⟨g, o + k, none⟩ (.int .u8 v)) w3.heap.size 37 #[.int .i64 kd, .slice (some ⟨g, o, none⟩) m cv] ∧ Spl (wr.setCell ⟨g, o + k, none⟩ (.int .u8 v)) w.heap.size r' b' p' ∧ Low w (wr.setCell ⟨g, o + k, none⟩ (.int .u8 v)) w.heap.size ∧ Wrt (wr.setCell ⟨g, o + k, none⟩ (.int .u8 v)) w2.heap.size w3.heap.size (some ⟨g, o, none⟩) m) := Lib.hid fun v =>
          ⟨hbk.far (by show w3.heap.size ≠ g; omega) _, hsp.grown (grown_put (World.grownBy.refl _ _) _ _) (by omega) hne, ⟨hlw.1.setCell (by show w.heap.size ≤ g; have := HB2.out.1.1.size; omega) _, hlw.2⟩, hwr.put v⟩
        have hk0 : (0 : Int) ≤ k := by omega
        have hk1 : (k : Int) < m := by omega
        clear hwr h1 h2 h3 hbk hsp hlw hne hsz
        go_wp2_with fail
        go_roundw
        case rel => exact ⟨k + 1, by omega, by go_num, HK.out _⟩
        case measure => simp [intOf]; omega
      · have hk1 : ¬ (k : Int) < m := by omega
        have HW := Lib.hid (And.intro hbk (And.intro hsp hlw))
        have hlb := HB3.out.2.2.2.2.2.1
        have HD := Lib.hid (drain_any w w.heap.size r' b' p' (n + 1) wr hsp (by have := HX.out.2.2; have := HNM.out; omega) (by have := HNM.out; omega) (by have := HX.out.2.2; have := HNM.out; omega) hlw)
        rw [show (((n + 1 : Nat)) : Int) = (n : Int) + 1 by omega] at HD
        clear hbk hsp hlw hwr c0 c1 hlb
        go_wp2_with fail
        refine HD.out.mono ?_
        rintro e w5 ⟨vd, md, r5, b5, p5, rfl, ⟨fs, e1, e2, e3, e4, e5, e6, e7⟩, e8⟩
        have HB5 := Lib.hid (And.intro (HW.out.2.2.grown e5) (And.intro e1 (And.intro e2 (And.intro e3 (And.intro e4 e8)))))
        clear e1 e2 e3 e4 e5 e6 e7 e8
        go_wp2_with fail
        refine (H2.out _ HB5.out.1.1).mono ?_
        rintro e w6 hsp
        obtain ⟨vr, rfl, o6, hb6⟩ := spl_at hsp (HB3.out.2.2.2.2.2.2.1.trans HB5.out.2.2.1) HB5.out.2.2.2.2.2
        have HB6 := Lib.hid (And.intro (bcall HB5.out.1.1 hb6) (And.intro o6 hb6))
        clear hsp hb6 o6
        go_wp2_with fail
        refine (feed_none p n c w6).mono ?_
        rintro e w6' ⟨⟨v6, rfl⟩, rfl⟩
        go_wp2_with fail
        refine (next_none w6).mono ?_
        rintro e w7 ⟨rfl, hb7⟩
        have HB7 := Lib.hid (And.intro (bcall HB6.out.1 hb7) hb7)
        clear hb7
        go_wp2_with fail
        refine (HA.out _ (HB7.out.1.alloc HB7.out.1.size _)).mono ?_
        rintro e w8 ⟨rfl, hb8⟩
        have k68 : Below w6.heap.size w6 w8 := bcall (HB7.out.2.alloc HB7.out.2.size _) hb8
        have HB8 := Lib.hid (And.intro (bcall HB6.out.1 k68) k68)
        clear hb8 k68
        have hfl : fs.length ≤ 1000 := by have h1 := HB5.out.2.2.1.count; have h2 := HB3.out.2.2.2.2.2.1; have h3 := HX.out.2.2; have h4 := HNM.out; omega
        have od := (HB5.out.2.2.2.2.1.keep (KeptOn.below (bcall HB6.out.2.2 HB8.out.2)) (fun _ _ h => h))
        have or := (HB6.out.2.1.keep (KeptOn.below HB8.out.2) (fun _ _ h => h))
        have hs8 := HB5.out.2.2.2.1.below (bcall HB6.out.2.2 HB8.out.2)
        have hdat : ∀ f ∈ fs, f.data.length ≤ 1048576 := fun f hf => by
          have h1 := HB5.out.2.2.1.data f hf
          have h2 := HB3.out.2.2.2.2.2.1
          have h3 := HX.out.2.2
          have h4 := HNM.out
          omega
        have HLF := Lib.hid (fun W (hb : Below w8.heap.size w8 W) => left_any w.heap.size r5 b5 p5 W (hs8.below hb))
        have HSM := Lib.hid (fun u ok' (hu : OutF w8 ok' u fs) => same_any vd u fs _ ok' w8 od hu hdat (by omega))
        rcases HB3.out.2.2.2.2.2.2.2.2.1 with ⟨rfl, hw⟩ | ⟨f, rfl⟩
        · have hfs : fs = [] := (HB5.out.2.2.1.same (.refl b' p') HB5.out.2.2.2.2.2 hw).1
          subst hfs
          obtain ⟨pr, cr, e1, hcr⟩ := or.shape
          rw [List.nil_append] at e1 or
          obtain rfl := e1
          have HO := Lib.hid or
          clear or od hs8 hdat hw hfl hcr
          obtain ⟨pd, cd, e2, -⟩ := HB5.out.2.2.2.2.1.shape
          obtain rfl := e2
          have hmn : min (0 : Int) 1 = 0 := by decide
          rw [List.length_nil] at *
          obtain ⟨q, hq⟩ : ∃ q, (if cr = 0 then pr else pr) = q := ⟨_, rfl⟩
          go_wp2_with fail
          all_goals
            refine (same_nil _ _ _ _ w8).mono ?_
            rintro e w9 ⟨rfl, rfl⟩
            go_wp2_with fail
            refine (HLF.out _ (Below.refl _ _)).mono ?_
            rintro e w9 ⟨rfl, rfl⟩
            go_wp2_with fail
            refine (left_none w8).mono ?_
            rintro e w9 ⟨rfl, rfl⟩
            go_wp2_with fail
            go_ret
            exact ⟨rfl, HB8.out.1⟩
        · obtain ⟨pr, cr, e1, hcr⟩ := or.shape
          obtain rfl := e1
          simp only [List.singleton_append, List.length_cons] at or hcr
          obtain ⟨g, off, rfl⟩ : ∃ g off, pr = some ⟨g, off, none⟩ := by
            obtain ⟨xs, hb, _⟩ := or
            rcases hb.2 with ⟨e, h⟩ | ⟨g, off, cap, e, _⟩
            · simp at h
            · injection e with e; exact ⟨g, off, e⟩
          have HO := Lib.hid or.rest
          have HSM2 := HSM
          clear HSM2 or od hs8 hdat
          have HQ : Hid (∃ q, (if cr = 1 then some (⟨g, off, none⟩ : Addr) else some ⟨g, off + 2, none⟩) = q ∧ ∃ ok', OutF w8 ok' (.slice q fs.length (cr - 1)) fs) := Lib.hid (by
            by_cases h1 : cr = 1
            · rw [if_pos h1]
              have := HO.out.2 (by omega)
              refine ⟨_, rfl, (fun k => w5.heap.size ≤ k), ?_⟩
              rw [show fs.length = 0 by omega, show cr - 1 = 0 by omega]
              exact this
            · rw [if_neg h1]
              exact ⟨_, rfl, (fun k => w5.heap.size ≤ k), HO.out.1⟩)
          obtain ⟨q, hq, ok', ho⟩ := HQ.out
          have HS := Lib.hid (HSM.out _ _ ho)
          simp only [List.singleton_append, List.length_cons]
          generalize fs.length = F at *
          have hmn : min ((F : Int) + 1) 1 = 1 := by omega
          have hcr1 : (F : Int) + 1 ≤ cr := by omega
          clear ho HSM HO HQ
          go_wp2_with fail
          all_goals
            refine HS.out.mono ?_
            rintro e w9 ⟨rfl, hb9⟩
            have HB9 := Lib.hid (And.intro (bcall HB8.out.1 hb9) hb9)
            clear hb9
            go_wp2_with fail
            refine (HLF.out _ HB9.out.2).mono ?_
            rintro e w10 ⟨rfl, rfl⟩
            go_wp2_with fail
            refine (left_none w9).mono ?_
            rintro e w10 ⟨rfl, rfl⟩
            go_wp2_with fail
            go_ret
            exact ⟨rfl, HB9.out.1⟩
end Go.Proofs.YtllboenffepcgaaDoor
