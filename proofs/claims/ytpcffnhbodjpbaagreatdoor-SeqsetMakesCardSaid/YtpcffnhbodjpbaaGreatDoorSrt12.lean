/- The walk of pdqsort at unsigned numbers. -/
import Derived.Test.YtpcffnhbodjpbaaGreatDoorSrt11
import Derived.Sort.Walk13
import Derived.Sort.Walk13a
import Derived.Deep.LoopGhost
import Derived.Deep.CutRange
set_option linter.unusedVariables false
set_option linter.unusedSimpArgs false
namespace Go.Proofs.YtpcffnhbodjpbaaGreatDoor
open Go.RowKit Go.Sort Go.Lib

theorem part_at {blk off cap a b pivot n mid : Nat} {ap : Bool} {d d4 : Array Int} {w0 w : World} (h : SP w0 blk off d w) (hs : d.size = n) (hab : a < b) (hb : b ≤ n) (hp : pivot < n) (hd : n ≤ 1048576) (hx : partition ltInt d a b pivot = (mid, ap, d4)) :
    Calls Tryz.prog 97 #[.slice (some ⟨blk, off, none⟩) n cap, .int .i64 a, .int .i64 b, .int .i64 pivot] w fun e w' => e = .returned (.tuple #[.int .i64 mid, .bool ap]) ∧ SP w0 blk off d4 w' := by
  subst hs
  have := part_u32 blk off cap a b pivot d w h.1 hab hb hp hd
  rw [hx] at this
  exact this.mono fun e w' ⟨he, hS⟩ => ⟨he, h.trans hS⟩
theorem partEq_at {blk off cap a b pivot n mid : Nat} {d d4 : Array Int} {w0 w : World} (h : SP w0 blk off d w) (hs : d.size = n) (hab : a < b) (hb : b ≤ n) (hp : pivot < n) (hd : n ≤ 1048576) (hx : partitionEqual ltInt d a b pivot = (mid, d4)) :
    Calls Tryz.prog 96 #[.slice (some ⟨blk, off, none⟩) n cap, .int .i64 a, .int .i64 b, .int .i64 pivot] w fun e w' => e = .returned (.int .i64 mid) ∧ SP w0 blk off d4 w' := by
  subst hs
  have := partEq_u32 blk off cap a b pivot d w h.1 hab hb hp hd
  rw [hx] at this
  exact this.mono fun e w' ⟨he, hS⟩ => ⟨he, h.trans hS⟩

theorem pdq_left_at {lt : Int → Int → Bool} {d d4 : Array Int} {a b limit mid : Nat} {wb wp ap : Bool} {R : Array Int} (h : ¬ b - a ≤ 12) (h0 : ¬ limit = 0) (h1 : (rd lt d a b limit wb wp).pi.2 = false) (h2 : (decide (a > 0) && !lt (rd lt d a b limit wb wp).pi.1[a - 1]! (rd lt d a b limit wb wp).pi.1[(rd lt d a b limit wb wp).pivot]!) = false) (hx : partition lt (rd lt d a b limit wb wp).pi.1 a b (rd lt d a b limit wb wp).pivot = (mid, ap, d4)) (h3 : a ≤ mid) (h3' : mid < b) (h4 : mid - a < b - mid) (hO : pdq lt d a b limit wb wp = R) :
    pdq lt (pdq lt d4 a mid (rd lt d a b limit wb wp).lim true true) (mid + 1) b (rd lt d a b limit wb wp).lim (decide (mid - a ≥ (b - a) / 8)) ap = R := by
  have := pdq_left (lt := lt) (d := d) (a := a) (b := b) (limit := limit) (wb := wb) (wp := wp) h h0 h1 h2 (by rw [hx]; exact ⟨h3, h3'⟩) (by rw [hx]; exact h4)
  rw [hx] at this
  exact this.symm.trans hO
theorem pdq_right_at {lt : Int → Int → Bool} {d d4 : Array Int} {a b limit mid : Nat} {wb wp ap : Bool} {R : Array Int} (h : ¬ b - a ≤ 12) (h0 : ¬ limit = 0) (h1 : (rd lt d a b limit wb wp).pi.2 = false) (h2 : (decide (a > 0) && !lt (rd lt d a b limit wb wp).pi.1[a - 1]! (rd lt d a b limit wb wp).pi.1[(rd lt d a b limit wb wp).pivot]!) = false) (hx : partition lt (rd lt d a b limit wb wp).pi.1 a b (rd lt d a b limit wb wp).pivot = (mid, ap, d4)) (h3 : a ≤ mid) (h3' : mid < b) (h4 : ¬ mid - a < b - mid) (hO : pdq lt d a b limit wb wp = R) :
    pdq lt (pdq lt d4 (mid + 1) b (rd lt d a b limit wb wp).lim true true) a mid (rd lt d a b limit wb wp).lim (decide (b - mid ≥ (b - a) / 8)) ap = R := by
  have := pdq_right (lt := lt) (d := d) (a := a) (b := b) (limit := limit) (wb := wb) (wp := wp) h h0 h1 h2 (by rw [hx]; exact ⟨h3, h3'⟩) (by rw [hx]; exact h4)
  rw [hx] at this
  exact this.symm.trans hO
theorem pdq_eq_at {lt : Int → Int → Bool} {d d4 : Array Int} {a b limit mid : Nat} {wb wp : Bool} {R : Array Int} (h : ¬ b - a ≤ 12) (h0 : ¬ limit = 0) (h1 : (rd lt d a b limit wb wp).pi.2 = false) (h2 : (decide (a > 0) && !lt (rd lt d a b limit wb wp).pi.1[a - 1]! (rd lt d a b limit wb wp).pi.1[(rd lt d a b limit wb wp).pivot]!) = true) (hx : partitionEqual lt (rd lt d a b limit wb wp).pi.1 a b (rd lt d a b limit wb wp).pivot = (mid, d4)) (h3 : a < mid) (h3' : mid ≤ b) (hO : pdq lt d a b limit wb wp = R) :
    pdq lt d4 mid b (rd lt d a b limit wb wp).lim wb wp = R := by
  have := pdq_eq (lt := lt) (d := d) (a := a) (b := b) (limit := limit) (wb := wb) (wp := wp) h h0 h1 h2 (by rw [hx]; exact ⟨h3, h3'⟩)
  rw [hx] at this
  exact this.symm.trans hO

set_option maxHeartbeats 25600000 in
set_option maxRecDepth 1000000 in
theorem pdq_u32 (blk off cap n : Nat) (hn : n ≤ 1048576) (hcap : n ≤ cap) : ∀ (N a b limit : Nat) (d : Array Int) (w : World), b - a < N → d.size = n → Holds (Value.int .u32) w blk off d → blk < w.heap.size → a ≤ b → b ≤ n → limit ≤ 64 → Below ltInt a b d →
    Calls Tryz.prog 66 #[.slice (some ⟨blk, off, none⟩) n cap, .int .i64 a, .int .i64 b, .int .i64 limit] w fun e w' => (∃ v, e = .returned v) ∧ SP w blk off (pdq ltInt d a b limit true true) w' := by
  intro N
  induction N with
  | zero => intro _ _ _ _ _ h; exact absurd h (Nat.not_lt_zero _)
  | succ N ih =>
    have HIH : Hid (∀ (a b limit : Nat) (z : Int) (d : Array Int) (w : World), z = (a : Int) → b - a < N → d.size = n → Holds (Value.int .u32) w blk off d → blk < w.heap.size → a ≤ b → b ≤ n → limit ≤ 64 → Below ltInt a b d →
        Calls Tryz.prog 66 #[.slice (some ⟨blk, off, none⟩) n cap, .int .i64 z, .int .i64 b, .int .i64 limit] w fun e w' => (∃ v, e = .returned v) ∧ SP w blk off (pdq ltInt d a b limit true true) w') := Lib.hid (fun a b limit z d w hz => by subst hz; exact ih a b limit d w)
    clear ih
    intro a b limit d w hN hs h hbk hab hb hlimit hBel
    have HS := Lib.hid (And.intro (SP.start h) (And.intro hs hBel))
    have HBK := Lib.hid hbk
    have hnI : (n : Int) ≤ 1048576 := by omega
    have hliI : (limit : Int) ≤ 64 := by omega
    have habI : (a : Int) ≤ b := by omega
    have hbnI : (b : Int) ≤ n := by omega
    clear h hs hBel hbk
    go_enter Tryz.func66, Tryz.ntmps66
    go_wp2_with fail
    go_loopw [1, 2, 3, 8, 9] (fun s1 s2 s3 s8 s9 wr => ∃ (p q lim : Nat) (wb wp : Bool) (dk : Array Int), s1 = .int .i64 p ∧ s2 = .int .i64 q ∧ s3 = .int .i64 lim ∧ s8 = .bool wb ∧ s9 = .bool wp ∧
      p ≤ q ∧ q ≤ n ∧ q - p ≤ b - a ∧ lim ≤ limit ∧ dk.size = n ∧ Below ltInt p q dk ∧ SP w blk off dk wr ∧ pdq ltInt dk p q lim wb wp = pdq ltInt d a b limit true true) (fun s1 s2 s3 s8 s9 _ => (intOf s2).toNat - (intOf s1).toNat)
    case atStart => exact ⟨a, b, limit, true, true, d, rfl, rfl, rfl, rfl, rfl, hab, hb, Nat.le_refl _, Nat.le_refl _, HS.out.2.1, HS.out.2.2, HS.out.1, rfl⟩
    case round =>
      obtain ⟨p, q, lim, wb, wp, dk, rfl, rfl, rfl, rfl, rfl, hpq, hqn, hkN, hlim, hds, hBel, hsp, heq⟩ := hrel
      obtain ⟨wo, rfl⟩ : ∃ wo : World, wo = wr := ⟨_, rfl⟩
      have HO := Lib.hid heq
      have HSP := Lib.hid hsp
      have HD := Lib.hid (And.intro hds hBel)
      clear heq hsp hds hBel
      have hpqI : (p : Int) ≤ q := by omega
      have hqnI : (q : Int) ≤ n := by omega
      by_cases h12 : q - p ≤ 12
      · have h12z : (q : Int) - (p : Int) ≤ 12 := by omega
        have HC := Lib.hid (insertion_u32 blk off cap p q dk wo HSP.out.1 hpq (by have := HD.out.1; omega) (by have := HD.out.1; omega) (by have := HD.out.1; omega))
        rw [HD.out.1] at HC
        go_wp2_with fail
        refine HC.out.mono ?_
        rintro e w1 ⟨⟨v, rfl⟩, hw1⟩
        have HW := Lib.hid hw1
        clear hw1
        go_wp2_with fail
        refine bodyPost_ret (results_none rfl _ _ _) rfl ?_
        refine ⟨⟨_, rfl⟩, ?_⟩
        rw [← HO.out, pdq_small h12]
        exact HSP.out.trans HW.out
      · have h12z : decide ((q : Int) - (p : Int) ≤ 12) = false := decide_eq_false (by omega)
        have h12p : ¬ ((q : Int) - (p : Int) ≤ 12) := by omega
        by_cases hl0 : lim = 0
        · subst hl0
          have HC := Lib.hid (heap_u32 blk off cap p q dk wo HSP.out.1 hpq (by have := HD.out.1; omega) (by have := HD.out.1; omega) (by have := HD.out.1; omega))
          rw [HD.out.1] at HC
          go_wp2_with fail
          refine HC.out.mono ?_
          rintro e w1 ⟨⟨v, rfl⟩, hw1⟩
          have HW := Lib.hid hw1
          clear hw1
          go_wp2_with fail
          refine bodyPost_ret (results_none rfl _ _ _) rfl ?_
          refine ⟨⟨_, rfl⟩, ?_⟩
          rw [← HO.out, pdq_heap h12 rfl]
          exact HSP.out.trans HW.out
        · have hl0z : ((lim : Int) == 0) = false := by simp; omega
          have hl0p : ¬ ((lim : Int) = 0) := by omega
          have hf := rd_facts (lt := ltInt) (d := dk) (a := p) (b := q) (limit := lim) (wb := wb) (wp := wp) swo_ltInt partialInsertionSort_holds reverseRange_holds (show p < q by omega) (show q ≤ dk.size by have := HD.out.1; omega) HD.out.2
          rw [HD.out.1] at hf
          obtain ⟨s1, B1, ⟨hc1, hc2⟩, s2, B2, ⟨hpv1, hpv2⟩, s3, B3⟩ := hf
          have HF := Lib.hid (And.intro s1 (And.intro s2 s3))
          have HB := Lib.hid (And.intro B1 (And.intro B2 B3))
          clear s1 s2 s3 B1 B2 B3
          go_upto_if 35 with fail
          go_cut [3] from 19 to 133 (fun s3 wc => s3 = .int .i64 (rd ltInt dk p q lim wb wp).lim ∧ SP w blk off (rd ltInt dk p q lim wb wp).d1 wc)
          case first =>
            cases wb
            · have HC := Lib.hid (break_u32 blk off cap p q dk wo HSP.out.1 (by have := HSP.out.2.size; have := HBK.out; omega) hpq (by have := HD.out.1; omega) (by have := HD.out.1; omega))
              rw [HD.out.1] at HC
              go_wp2_with fail
              refine HC.out.mono ?_
              rintro e w1 ⟨⟨v, rfl⟩, hw1⟩
              have HW := Lib.hid hw1
              clear hw1
              go_wp2_with fail
              go_meet
              case rel =>
                refine ⟨?_, HSP.out.trans HW.out⟩
                show Value.int .i64 ((lim : Int) - 1) = Value.int .i64 ((lim - 1 : Nat) : Int)
                congr 1
                omega
            · go_wp2_with fail
              go_meet
              case rel => exact ⟨rfl, HSP.out⟩
          case rest =>
            obtain ⟨rfl, hs1⟩ := hcut
            have HC := Lib.hid ((pivot_u32 blk off cap p q (rd ltInt dk p q lim wb wp).d1 wc hs1.1 (by have := hs1.2.size; have := HBK.out; omega) (by omega) (by have := HF.out; omega) (by have := HF.out; omega)).mono fun e w' ⟨he, hS⟩ => (⟨he, hs1.trans hS⟩ : _ ∧ SP w blk off (rd ltInt dk p q lim wb wp).d1 w'))
            rw [HF.out.1, ← rd_c] at HC
            clear hs1
            have hlmI : ((rd ltInt dk p q lim wb wp).lim : Int) ≤ 64 := by have := rd_lim_le (lt := ltInt) (d := dk) (a := p) (b := q) (limit := lim) (wb := wb) (wp := wp); omega
            go_upto_if 50 with (go_at_call 92; refine HC.out.mono ?_; rintro e w2 ⟨rfl, hs2⟩)
            have HS2 := Lib.hid hs2
            clear hs2
            go_cut [11, 12] from 19 to 133 (fun s11 s12 wc => s11 = .int .i64 (rd ltInt dk p q lim wb wp).pivot ∧ s12 = .int .i64 (hintCode (rd ltInt dk p q lim wb wp).hint) ∧ SP w blk off (rd ltInt dk p q lim wb wp).d2 wc)
            case first =>
              by_cases hh : (rd ltInt dk p q lim wb wp).c.2 = .decreasing
              · have hcode : hintCode (rd ltInt dk p q lim wb wp).c.2 = 2 := by rw [hh]; rfl
                obtain ⟨e2, epv, eht⟩ := rd_dec hh
                have HR := Lib.hid (reverse_u32 blk off cap p q (rd ltInt dk p q lim wb wp).d1 w2 HS2.out.1 (by omega) (by have := HF.out; omega) (by have := HF.out; omega) (by have := HF.out; omega))
                rw [HF.out.1] at HR
                have HE := Lib.hid (And.intro e2 (And.intro epv eht))
                clear e2 epv eht hh
                go_wp2_with fail
                refine HR.out.mono ?_
                rintro e w3 ⟨⟨v, rfl⟩, hw3⟩
                have HW3 := Lib.hid hw3
                clear hw3
                go_wp2_with fail
                go_meet
                case rel =>
                  refine ⟨?_, by rw [HE.out.2.2]; rfl, by rw [HE.out.1]; exact HS2.out.trans HW3.out⟩
                  rw [HE.out.2.1]
                  congr 1
                  omega
              · have hcode : ¬ (hintCode (rd ltInt dk p q lim wb wp).c.2 = 2) := fun h => hh (hintCode_two h)
                have hcodeB : (hintCode (rd ltInt dk p q lim wb wp).c.2 == 2) = false := by simpa using hcode
                obtain ⟨e2, epv, eht⟩ := rd_not hh
                have HE := Lib.hid (And.intro e2 (And.intro epv eht))
                clear e2 epv eht hh
                go_wp2_with fail
                go_meet
                case rel => exact ⟨by rw [HE.out.2.1], by rw [HE.out.2.2], by rw [HE.out.1]; exact HS2.out⟩
            case rest =>
              obtain ⟨rfl, rfl, hs3⟩ := hcut
              have HS3 := Lib.hid hs3
              clear hs3
              go_upto_region 15 with fail
              go_cut [12, 68] from 19 to 133 (fun s12 s68 wx => s12 = .int .i64 (hintCode (rd ltInt dk p q lim wb wp).hint) ∧ s68 = .bool (wb && wp && decide ((rd ltInt dk p q lim wb wp).hint = .increasing)) ∧ wx = wc)
              case first =>
                cases wb <;> cases wp <;> cases hh3 : (rd ltInt dk p q lim _ _).hint <;>
                  (have hcode3 := congrArg hintCode hh3
                   simp only [hintCode] at hcode3
                   go_wp2_with fail
                   go_meet
                   exact ⟨by simp [hh3, hintCode], by simp [hh3, hintCode], rfl⟩)
              case rest =>
                obtain ⟨rfl, rfl, rfl⟩ := hcut
                go_upto_if 68 with fail
                go_cut [] from 19 to 133 (fun wx => (rd ltInt dk p q lim wb wp).pi.2 = false ∧ SP w blk off (rd ltInt dk p q lim wb wp).pi.1 wx)
                case first =>
                  cases h68 : (wb && wp && decide ((rd ltInt dk p q lim wb wp).hint = .increasing))
                  · have HE := Lib.hid (rd_pi_no h68)
                    go_wp2_with fail
                    go_meet
                    case rel => exact ⟨by rw [HE.out], by rw [HE.out]; exact HS3.out⟩
                  · have HE := Lib.hid (rd_pi_yes h68)
                    have HC19 := Lib.hid (partial_u32 blk off cap p q (rd ltInt dk p q lim wb wp).d2 _ HS3.out.1 (by omega) (by have := HF.out; omega) (by have := HF.out; omega))
                    rw [← HE.out, HF.out.2.1] at HC19
                    go_wp2_with fail
                    refine HC19.out.mono ?_
                    rintro e w4 ⟨rfl, hw4⟩
                    have HW4 := Lib.hid hw4
                    clear hw4
                    go_wp2_with fail
                    all_goals first
                      | (have hp2 : (rd ltInt dk p q lim wb wp).pi.2 = false := by assumption
                         go_meet
                         exact ⟨hp2, HS3.out.trans HW4.out⟩)
                      | (have hp2 : (rd ltInt dk p q lim wb wp).pi.2 = true := by assumption
                         refine bodyPost_ret (results_none rfl _ _ _) rfl ?_
                         refine ⟨⟨_, rfl⟩, ?_⟩
                         rw [← HO.out, pdq_done h12 hl0 hp2]
                         exact HS3.out.trans HW4.out)
                case rest =>
                  obtain ⟨hp2, hs5⟩ := hcut
                  have HSP5 := Lib.hid hs5
                  have HP2 := Lib.hid hp2
                  clear hs5
                  clear hp2
                  have hpvI : ((rd ltInt dk p q lim wb wp).pivot : Int) < n := by omega
                  have hpqn : (p : Int) < n := by omega
                  rcases Nat.eq_zero_or_pos p with ha0 | ha0
                  · have hp2 := HP2.out
                    have HH : Hid ((decide (p > 0) && !ltInt (rd ltInt dk p q lim wb wp).pi.1[p - 1]! (rd ltInt dk p q lim wb wp).pi.1[(rd ltInt dk p q lim wb wp).pivot]!) = false) := Lib.hid (by simp [ha0])
                    have hn0d : decide (0 < p) = false := decide_eq_false (by omega)
                    have hn0z : decide ((0 : Int) < (p : Int)) = false := decide_eq_false (by omega)
                    have hn0p : ¬ ((0 : Int) < (p : Int)) := by omega
                    clear ha0 hp2
                    obtain ⟨⟨mid, ap, d4⟩, hx⟩ : ∃ x, partition ltInt (rd ltInt dk p q lim wb wp).pi.1 p q (rd ltInt dk p q lim wb wp).pivot = x := ⟨_, rfl⟩
                    obtain ⟨r1, r2, r3, r4, r5, r6, r7⟩ := round_part swo_ltInt (partition_holds ltInt) hpv1 hpv2 (show q ≤ (rd ltInt dk p q lim wb wp).pi.1.size by have := HF.out; omega) HB.out.2.2 hx
                    have HCP := Lib.hid (fun W (hW : SP w blk off (rd ltInt dk p q lim wb wp).pi.1 W) => part_at (cap := cap) hW HF.out.2.2 (Nat.lt_of_le_of_lt hpv1 hpv2) hqn (Nat.lt_of_lt_of_le hpv2 hqn) hn hx)
                    have hs4 : d4.size = n := r3.trans HF.out.2.2
                    have HX := Lib.hid (And.intro hx (And.intro r3 (And.intro hs4 (And.intro r4 r5))))
                    have hmI1 : (p : Int) ≤ mid := by omega
                    have hmI2 : (mid : Int) < q := by omega
                    have HR6 := Lib.hid r6
                    have HR7 := Lib.hid r7
                    clear hx r3 hs4 r4 r5 r6 r7
                    by_cases h4 : mid - p < q - mid
                    · have h4z : (mid : Int) - (p : Int) < (q : Int) - (mid : Int) := by omega
                      have hih := Lib.hid (fun W (hW : SP w blk off d4 W) => by
                        have := HIH.out p mid (rd ltInt dk p q lim wb wp).lim p d4 W rfl (by omega) HX.out.2.2.1 hW.1 (by have := hW.2.size; have := HBK.out; omega) r1 (by omega) (Nat.le_trans rd_lim_le (by omega)) HX.out.2.2.2.1
                        exact this.mono fun e w' ⟨he, hS⟩ => (⟨he, hW.trans hS⟩ : _ ∧ SP w blk off (pdq ltInt d4 p mid (rd ltInt dk p q lim wb wp).lim true true) w'))
                      obtain ⟨pL, sL⟩ := pdq_sorts ltInt swo_ltInt d4 p mid (rd ltInt dk p q lim wb wp).lim true true (by omega) (by have := HX.out.2.2.1; omega) HX.out.2.2.2.1
                      have HPL := Lib.hid (And.intro pL (HR6.out _ pL sL).1)
                      clear pL sL
                      go_wp2_with fail
                      go_quiet (fail)
                      go_wp2_with fail
                      refine (HCP.out _ (by first | exact HSP5.out.drewN _ | exact HSP5.out.drew | exact HSP5.out)).mono ?_
                      rintro e w7 ⟨rfl, hs7⟩
                      have HS7 := Lib.hid hs7
                      clear hs7
                      go_wp2_with fail
                      refine (hih.out _ HS7.out).mono ?_
                      rintro e w8 ⟨⟨v, rfl⟩, hs8⟩
                      have HS8 := Lib.hid hs8
                      clear hs8
                      go_wp2_with fail
                      refine ⟨⟨mid + 1, q, (rd ltInt dk p q lim wb wp).lim, decide (mid - p ≥ (q - p) / 8), ap, pdq ltInt d4 p mid (rd ltInt dk p q lim wb wp).lim true true, by first | rfl | go_num, rfl, rfl, ?_, rfl, by omega, by omega, by omega, Nat.le_trans rd_lim_le hlim, by have := HPL.out.1.1; rw [this]; exact HX.out.2.2.1, ?_, HS8.out, ?_⟩, by simp [intOf]; omega⟩
                      · exact congrArg Value.bool (eighth (by omega) (by omega))
                      · exact HPL.out.2
                      · exact pdq_left_at h12 hl0 HP2.out HH.out HX.out.1 r1 r2 h4 HO.out
                    · have h4z : decide ((mid : Int) - (p : Int) < (q : Int) - (mid : Int)) = false := decide_eq_false (by omega)
                      have h4p : ¬ ((mid : Int) - (p : Int) < (q : Int) - (mid : Int)) := by omega
                      have hih := Lib.hid (fun W (hW : SP w blk off d4 W) => by
                        have := HIH.out (mid + 1) q (rd ltInt dk p q lim wb wp).lim ((mid : Int) + 1) d4 W (by omega) (by omega) HX.out.2.2.1 hW.1 (by have := hW.2.size; have := HBK.out; omega) (by omega) (by omega) (Nat.le_trans rd_lim_le (by omega)) HX.out.2.2.2.2
                        exact this.mono fun e w' ⟨he, hS⟩ => (⟨he, hW.trans hS⟩ : _ ∧ SP w blk off (pdq ltInt d4 (mid + 1) q (rd ltInt dk p q lim wb wp).lim true true) w'))
                      obtain ⟨pL, sL⟩ := pdq_sorts ltInt swo_ltInt d4 (mid + 1) q (rd ltInt dk p q lim wb wp).lim true true (by omega) (by have := HX.out.2.2.1; omega) HX.out.2.2.2.2
                      have HPL := Lib.hid (And.intro pL (HR7.out _ pL sL).1)
                      clear pL sL
                      go_wp2_with fail
                      go_quiet (fail)
                      go_wp2_with fail
                      refine (HCP.out _ (by first | exact HSP5.out.drewN _ | exact HSP5.out.drew | exact HSP5.out)).mono ?_
                      rintro e w7 ⟨rfl, hs7⟩
                      have HS7 := Lib.hid hs7
                      clear hs7
                      go_wp2_with fail
                      refine (hih.out _ HS7.out).mono ?_
                      rintro e w8 ⟨⟨v, rfl⟩, hs8⟩
                      have HS8 := Lib.hid hs8
                      clear hs8
                      go_wp2_with fail
                      refine ⟨⟨p, mid, (rd ltInt dk p q lim wb wp).lim, decide (q - mid ≥ (q - p) / 8), ap, pdq ltInt d4 (mid + 1) q (rd ltInt dk p q lim wb wp).lim true true, rfl, rfl, rfl, ?_, rfl, by omega, by omega, by omega, Nat.le_trans rd_lim_le hlim, by have := HPL.out.1.1; rw [this]; exact HX.out.2.2.1, ?_, HS8.out, ?_⟩, by simp [intOf]; omega⟩
                      · exact congrArg Value.bool (eighth (by omega) (by omega))
                      · exact HPL.out.2
                      · exact pdq_right_at h12 hl0 HP2.out HH.out HX.out.1 r1 r2 h4 HO.out
                  · have ha0z : (0 : Int) < p := by omega
                    obtain ⟨p1, hp1⟩ : ∃ p1, p - 1 = p1 := ⟨_, rfl⟩
                    have hp1I : (p : Int) - 1 = (p1 : Int) := by omega
                    have hp1n : (p1 : Int) < n := by omega
                    have HP1 := Lib.hid hp1
                    obtain ⟨c0, f0⟩ := HSP5.out.1 p1 (by have := HF.out; omega)
                    obtain ⟨c1, f1⟩ := HSP5.out.1 (rd ltInt dk p q lim wb wp).pivot (by have := HF.out; omega)
                    obtain ⟨x0, hx0⟩ : ∃ x, (rd ltInt dk p q lim wb wp).pi.1[p1]! = x := ⟨_, rfl⟩
                    obtain ⟨x1, hx1⟩ : ∃ x, (rd ltInt dk p q lim wb wp).pi.1[(rd ltInt dk p q lim wb wp).pivot]! = x := ⟨_, rfl⟩
                    rw [hx0] at c0
                    rw [hx1] at c1
                    have HXX := Lib.hid (And.intro hx0 hx1)
                    clear hx0 hx1 hp1
                    cases hl : ltInt x0 x1 with
                    | true =>
                      have HL := Lib.hid hl
                      have HH : Hid ((decide (p > 0) && !ltInt (rd ltInt dk p q lim wb wp).pi.1[p - 1]! (rd ltInt dk p q lim wb wp).pi.1[(rd ltInt dk p q lim wb wp).pivot]!) = false) := Lib.hid (by rw [HP1.out, HXX.out.1, HXX.out.2, HL.out, Bool.not_true, Bool.and_false])
                      obtain ⟨⟨mid, ap, d4⟩, hx⟩ : ∃ x, partition ltInt (rd ltInt dk p q lim wb wp).pi.1 p q (rd ltInt dk p q lim wb wp).pivot = x := ⟨_, rfl⟩
                      obtain ⟨r1, r2, r3, r4, r5, r6, r7⟩ := round_part swo_ltInt (partition_holds ltInt) hpv1 hpv2 (show q ≤ (rd ltInt dk p q lim wb wp).pi.1.size by have := HF.out; omega) HB.out.2.2 hx
                      have HCP := Lib.hid (fun W (hW : SP w blk off (rd ltInt dk p q lim wb wp).pi.1 W) => part_at (cap := cap) hW HF.out.2.2 (Nat.lt_of_le_of_lt hpv1 hpv2) hqn (Nat.lt_of_lt_of_le hpv2 hqn) hn hx)
                      have hs4 : d4.size = n := r3.trans HF.out.2.2
                      have HX := Lib.hid (And.intro hx (And.intro r3 (And.intro hs4 (And.intro r4 r5))))
                      have hmI1 : (p : Int) ≤ mid := by omega
                      have hmI2 : (mid : Int) < q := by omega
                      have HR6 := Lib.hid r6
                      have HR7 := Lib.hid r7
                      clear hx r3 hs4 r4 r5 r6 r7
                      by_cases h4 : mid - p < q - mid
                      · have h4z : (mid : Int) - (p : Int) < (q : Int) - (mid : Int) := by omega
                        have hih := Lib.hid (fun W (hW : SP w blk off d4 W) => by
                          have := HIH.out p mid (rd ltInt dk p q lim wb wp).lim p d4 W rfl (by omega) HX.out.2.2.1 hW.1 (by have := hW.2.size; have := HBK.out; omega) r1 (by omega) (Nat.le_trans rd_lim_le (by omega)) HX.out.2.2.2.1
                          exact this.mono fun e w' ⟨he, hS⟩ => (⟨he, hW.trans hS⟩ : _ ∧ SP w blk off (pdq ltInt d4 p mid (rd ltInt dk p q lim wb wp).lim true true) w'))
                        obtain ⟨pL, sL⟩ := pdq_sorts ltInt swo_ltInt d4 p mid (rd ltInt dk p q lim wb wp).lim true true (by omega) (by have := HX.out.2.2.1; omega) HX.out.2.2.2.1
                        have HPL := Lib.hid (And.intro pL (HR6.out _ pL sL).1)
                        clear pL sL
                        go_wp2_with fail
                        go_quiet ((go_at_call 95; first | exact Calls.quiet_of_same (less_is _ _ _ HL.out _) | exact quietA (less_is _ _ _ HL.out _)))
                        go_wp2_with fail
                        refine (HCP.out _ (by first | exact HSP5.out.drewN _ | exact HSP5.out.drew | exact HSP5.out)).mono ?_
                        rintro e w7 ⟨rfl, hs7⟩
                        have HS7 := Lib.hid hs7
                        clear hs7
                        go_wp2_with fail
                        refine (hih.out _ HS7.out).mono ?_
                        rintro e w8 ⟨⟨v, rfl⟩, hs8⟩
                        have HS8 := Lib.hid hs8
                        clear hs8
                        go_wp2_with fail
                        refine ⟨⟨mid + 1, q, (rd ltInt dk p q lim wb wp).lim, decide (mid - p ≥ (q - p) / 8), ap, pdq ltInt d4 p mid (rd ltInt dk p q lim wb wp).lim true true, by first | rfl | go_num, rfl, rfl, ?_, rfl, by omega, by omega, by omega, Nat.le_trans rd_lim_le hlim, by have := HPL.out.1.1; rw [this]; exact HX.out.2.2.1, ?_, HS8.out, ?_⟩, by simp [intOf]; omega⟩
                        · exact congrArg Value.bool (eighth (by omega) (by omega))
                        · exact HPL.out.2
                        · exact pdq_left_at h12 hl0 HP2.out HH.out HX.out.1 r1 r2 h4 HO.out
                      · have h4z : decide ((mid : Int) - (p : Int) < (q : Int) - (mid : Int)) = false := decide_eq_false (by omega)
                        have h4p : ¬ ((mid : Int) - (p : Int) < (q : Int) - (mid : Int)) := by omega
                        have hih := Lib.hid (fun W (hW : SP w blk off d4 W) => by
                          have := HIH.out (mid + 1) q (rd ltInt dk p q lim wb wp).lim ((mid : Int) + 1) d4 W (by omega) (by omega) HX.out.2.2.1 hW.1 (by have := hW.2.size; have := HBK.out; omega) (by omega) (by omega) (Nat.le_trans rd_lim_le (by omega)) HX.out.2.2.2.2
                          exact this.mono fun e w' ⟨he, hS⟩ => (⟨he, hW.trans hS⟩ : _ ∧ SP w blk off (pdq ltInt d4 (mid + 1) q (rd ltInt dk p q lim wb wp).lim true true) w'))
                        obtain ⟨pL, sL⟩ := pdq_sorts ltInt swo_ltInt d4 (mid + 1) q (rd ltInt dk p q lim wb wp).lim true true (by omega) (by have := HX.out.2.2.1; omega) HX.out.2.2.2.2
                        have HPL := Lib.hid (And.intro pL (HR7.out _ pL sL).1)
                        clear pL sL
                        go_wp2_with fail
                        go_quiet ((go_at_call 95; first | exact Calls.quiet_of_same (less_is _ _ _ HL.out _) | exact quietA (less_is _ _ _ HL.out _)))
                        go_wp2_with fail
                        refine (HCP.out _ (by first | exact HSP5.out.drewN _ | exact HSP5.out.drew | exact HSP5.out)).mono ?_
                        rintro e w7 ⟨rfl, hs7⟩
                        have HS7 := Lib.hid hs7
                        clear hs7
                        go_wp2_with fail
                        refine (hih.out _ HS7.out).mono ?_
                        rintro e w8 ⟨⟨v, rfl⟩, hs8⟩
                        have HS8 := Lib.hid hs8
                        clear hs8
                        go_wp2_with fail
                        refine ⟨⟨p, mid, (rd ltInt dk p q lim wb wp).lim, decide (q - mid ≥ (q - p) / 8), ap, pdq ltInt d4 (mid + 1) q (rd ltInt dk p q lim wb wp).lim true true, rfl, rfl, rfl, ?_, rfl, by omega, by omega, by omega, Nat.le_trans rd_lim_le hlim, by have := HPL.out.1.1; rw [this]; exact HX.out.2.2.1, ?_, HS8.out, ?_⟩, by simp [intOf]; omega⟩
                        · exact congrArg Value.bool (eighth (by omega) (by omega))
                        · exact HPL.out.2
                        · exact pdq_right_at h12 hl0 HP2.out HH.out HX.out.1 r1 r2 h4 HO.out
                    | false =>
                      have HL := Lib.hid hl
                      have HH : Hid ((decide (p > 0) && !ltInt (rd ltInt dk p q lim wb wp).pi.1[p - 1]! (rd ltInt dk p q lim wb wp).pi.1[(rd ltInt dk p q lim wb wp).pivot]!) = true) := Lib.hid (by rw [HP1.out, HXX.out.1, HXX.out.2, HL.out, decide_eq_true ha0]; rfl)
                      obtain ⟨⟨mid, d4⟩, hx⟩ : ∃ x, partitionEqual ltInt (rd ltInt dk p q lim wb wp).pi.1 p q (rd ltInt dk p q lim wb wp).pivot = x := ⟨_, rfl⟩
                      obtain ⟨r1, r2, r3, r4, -⟩ := round_eq swo_ltInt (partitionEqual_holds ltInt) ha0 hpv1 hpv2 (show q ≤ (rd ltInt dk p q lim wb wp).pi.1.size by have := HF.out; omega) HB.out.2.2 (by rw [HP1.out, HXX.out.1, HXX.out.2, HL.out]) hx
                      have HCP := Lib.hid (fun W (hW : SP w blk off (rd ltInt dk p q lim wb wp).pi.1 W) => partEq_at (cap := cap) hW HF.out.2.2 (Nat.lt_of_le_of_lt hpv1 hpv2) hqn (Nat.lt_of_lt_of_le hpv2 hqn) hn hx)
                      have hs4 : d4.size = n := r3.trans HF.out.2.2
                      have HX := Lib.hid (And.intro hx (And.intro hs4 r4))
                      have hmI1 : (p : Int) < mid := by omega
                      have hmI2 : (mid : Int) ≤ q := by omega
                      clear hx r3 hs4 r4
                      go_wp2_with fail
                      go_quiet ((go_at_call 95; first | exact Calls.quiet_of_same (less_is _ _ _ HL.out _) | exact quietA (less_is _ _ _ HL.out _)))
                      go_wp2_with fail
                      refine (HCP.out _ (by first | exact HSP5.out.drewN _ | exact HSP5.out.drew | exact HSP5.out)).mono ?_
                      rintro e w7 ⟨rfl, hs7⟩
                      have HS7 := Lib.hid hs7
                      clear hs7
                      go_wp2_with fail
                      refine ⟨⟨mid, q, (rd ltInt dk p q lim wb wp).lim, wb, wp, d4, rfl, rfl, rfl, rfl, rfl, r2, hqn, by omega, Nat.le_trans rd_lim_le hlim, HX.out.2.1, HX.out.2.2, HS7.out, ?_⟩, by simp [intOf]; omega⟩
                      exact pdq_eq_at h12 hl0 HP2.out HH.out HX.out.1 r1 r2 HO.out
end Go.Proofs.YtpcffnhbodjpbaaGreatDoor
