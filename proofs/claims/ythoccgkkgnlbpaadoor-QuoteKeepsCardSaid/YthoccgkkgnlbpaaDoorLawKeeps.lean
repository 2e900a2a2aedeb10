/- The walk of the law QuoteKeeps. -/
import Derived.Test.YthoccgkkgnlbpaaDoorLawInverse
import Derived.Test.YthoccgkkgnlbpaaDoorLawForms
namespace Go.Proofs.YthoccgkkgnlbpaaDoor
open Go.RowKit

/-- All are bytes. -/
def AllU8 (cs : List Value) : Prop := ∀ c ∈ cs, ∃ z : Int, c = .int .u8 z
theorem byteCells_u8 (l : List UInt8) : AllU8 (Lib.byteCells l) := by
  intro c hc
  obtain ⟨x, _, rfl⟩ := List.mem_map.1 hc
  exact ⟨_, rfl⟩
/-- A store into a place of a slice of the call's own. -/
theorem Buf.store {w : World} {base n : Nat} {v : Value} {cs : List Value} (h : Buf w base 1 v n cs) {k : Nat} (hk : k < n) : ∃ g off cap c, v = .slice (some ⟨g, off, none⟩) n cap ∧ base ≤ g ∧ cs[k]? = some c ∧ w.cell? ⟨g, off + k, none⟩ = some c ∧ w.frozen? ⟨g, off + k, none⟩ = false ∧
    ∀ u, Buf (w.setCell ⟨g, off + k, none⟩ u) base 1 v n (cs.set k u) := by
  have hlen := h.1
  rcases h.2 with ⟨_, h0⟩ | ⟨g, off, cap, rfl, hg, hlt, hnc, hc, hf⟩
  · omega
  · have hkl : k < cs.length := by omega
    have hck := hc k cs[k] (List.getElem?_eq_getElem hkl)
    refine ⟨g, off, cap, cs[k], rfl, hg, List.getElem?_eq_getElem hkl, hck, (hf k (by omega)).2, fun u => ⟨by rw [List.length_set]; exact hlen, .inr ⟨g, off, cap, rfl, hg, by simpa [World.setCell] using hlt, hnc, fun j x hj => ?_, fun j hj => ?_⟩⟩⟩
    · by_cases e : j = k
      · subst e
        rw [List.getElem?_set_self hkl] at hj
        injection hj with hj
        subst hj
        exact World.cell?_setCell_same _ _ _ hck
      · rw [List.getElem?_set_ne (fun h => e h.symm)] at hj
        rw [World.cell?_setCell_other _ _ _ _ (fun h => by injection h with _ h; omega)]
        exact hc j x hj
    · obtain ⟨h1, h2⟩ := hf j hj
      refine ⟨?_, by rw [World.frozen?_setCell]; exact h2⟩
      by_cases e : j = k
      · subst e
        rw [World.cell?_setCell_same _ _ _ hck]; rfl
      · rw [World.cell?_setCell_other _ _ _ _ (fun h => by injection h with _ h; omega)]
        exact h1
theorem AllU8.set {cs : List Value} (h : AllU8 cs) (k : Nat) (z : Int) : AllU8 (cs.set k (.int .u8 z)) := by
  intro c hc
  rcases List.mem_or_eq_of_mem_set hc with h1 | h1
  · exact h c h1
  · exact ⟨z, h1⟩

theorem RetS.own {W w' : World} {m : List UInt8} {j : Nat} {e : Ending} (h : RetS W (Option.some (m, j)) e w') : ∃ p c, e = .returned (.tuple #[.slice p m.length c, .int .i64 (j : Int), .bool true]) ∧ Buf w' W.heap.size 1 (.slice p m.length c) m.length (Lib.byteCells m) ∧ Below W.heap.size W w' := by
  obtain ⟨p, c, he, hb, _, hw⟩ := h.parts
  exact ⟨p, c, he, hb, hw⟩

theorem best_len (l : List UInt8) (hl : l.length ≤ 500) : (bestB l).length ≤ 1100 := by
  unfold bestB
  cases h : quoB l with
  | none =>
    have := decDigits_len l.length (by omega)
    simp [litB, litH]; omega
  | some x => have := quo_len h; simp; omega

set_option maxRecDepth 100000 in
set_option maxHeartbeats 3200000 in
theorem quoteKeeps_in (p : Option Addr) (cap : Nat) (l : List UInt8) (w : World) (h : Bys w w.heap.size p l) (hcap : l.length ≤ cap) (hS : Std w) (hl : l.length ≤ 500) :
    Calls Tryd.prog 7 #[.slice p l.length cap] w fun e w' => e = .returned (.bool true) ∧ Below w.heap.size w w' := by
  have hll : (litB l).length ≤ 520 := by
    have := decDigits_len l.length (by omega)
    simp [litB, litH]; omega
  have hSL : scanL (litB l) (0 : Int) = some (l, (litB l).length) := by
    have := scanL_lit l [] [] (by omega)
    simpa using this
  have hqb := best_len l hl
  have H1 := Lib.hid (rLiteral_any p cap l w h (by omega))
  have H2 := Lib.hid (fun w1 (hw : Below w.heap.size w w1) => rBest_any p cap l w1 ((h.below hw).more hw.size) (by omega) hcap)
  have HA := Lib.hid (fun w1 (hw : Below w.heap.size w w1) => alive04_walk w1 (hS.below hw))
  have HSS := Lib.hid hS
  have hc0 : (l.length : Int) ≤ 500 := by omega
  have hrd := scanQ_len (bestB l) 0
  clear h hcap hS
  generalize litB l = lb at *
  generalize bestB l = qb at *
  have HSL := Lib.hid hSL
  obtain ⟨n, hn⟩ : ∃ n, l.length = n := ⟨_, rfl⟩
  have HN := Lib.hid hn
  rw [hn] at H1 H2 hc0 ⊢
  clear hSL hn
  go_enter Tryd.func7, Tryd.ntmps7
  go_wp2_with fail
  refine H1.out.mono ?_
  rintro e w1 hr
  obtain ⟨p1, q1, rfl, -, y1, b1⟩ := hr.parts
  obtain ⟨p2, q2, w2, hrun, k2, hbuf2, b2⟩ := own_copy w1 p1 q1 lb y1 (by omega)
  obtain ⟨p2', q2', e2, -, y2⟩ := hbuf2.bys
  injection e2 with e21 e22 e23
  subst e21 e23
  have HR := Lib.hid hrun
  have HB1 := Lib.hid b1
  have HB2 := Lib.hid (b1.trans (b2.mono b1.size))
  have Y2 := Lib.hid (And.intro ((y1.below b2).more b2.size) y2)
  have HS2 := Lib.hid (scanLiteral_any p2 lb q2 0 w2 y2 (by omega) k2 (HSS.out.below HB2.out))
  rw [HSL.out] at HS2
  clear hr hrun hbuf2 y1 y2 b1 b2 k2 e22
  go_wp2_with (at_builtin; refine wpList_append_run _ rfl (.tmp 21) (.tmp 22) _ _ rfl _ _ rfl rfl _ _ HR.out ?_)
  refine HS2.out.mono ?_
  rintro e w3 hr
  obtain ⟨p3, q3, he, hbuf3, b3⟩ := hr.own
  rw [HN.out] at he hbuf3
  subst he
  have HBUF3 := Lib.hid hbuf3
  have HB3 := Lib.hid b3
  clear hr hbuf3 b3
  have hn0 : (0 : Int) ≤ n := by omega
  go_wp2_with fail
  go_loopw [32] (fun i wr => ∃ k : Nat, k ≤ n ∧ i = .int .i64 (k : Int) ∧ Below w2.heap.size w2 wr ∧ ∃ cs, AllU8 cs ∧ Buf wr w2.heap.size 1 (.slice p3 n q3) n cs) (fun i _ => n - (intOf i).toNat)
  case atStart => exact ⟨0, Nat.zero_le _, rfl, HB3.out, _, byteCells_u8 l, HBUF3.out⟩
  case round =>
    obtain ⟨k, hk, rfl, hbw, cs, hall, hbuf⟩ := hrel
    by_cases hlt : k < n
    · obtain ⟨g, off, cp, c, hv, hg, hck, hcell, hfr, hst⟩ := hbuf.store hlt
      injection hv with hv1 hv2 hv3
      subst hv1 hv3
      obtain ⟨z, rfl⟩ := hall c (List.mem_of_getElem? hck)
      have hi0 : (0 : Int) ≤ k := by omega
      have hi1 : (k : Int) < n := by omega
      have ST := Lib.hid hst
      have AL := Lib.hid hall
      have BW := Lib.hid hbw
      clear hv2 hck hst hall hbw hbuf
      go_wp2_with fail
      exact ⟨⟨k + 1, by omega, by go_num, BW.out.setCell (p := ⟨g, off + k, none⟩) hg _, _, AL.out.set k _, ST.out _⟩, by simp [intOf]; omega⟩
    · have HBR2 := Lib.hid hbw
      have HBR := Lib.hid (HB2.out.trans (hbw.mono HB2.out.size))
      have HR2 := Lib.hid (H2.out wr HBR.out)
      clear hall hbuf hbw
      go_wp2_with fail
      refine HR2.out.mono ?_
      rintro e w4 hr
      obtain ⟨p4, q4, rfl, -, y4, b4⟩ := hr.parts
      obtain ⟨p5, q5, w5, hrun5, k5, hbuf5, b5⟩ := own_copy w4 p4 q4 qb y4 (by omega)
      obtain ⟨p5', q5', e5, -, y5⟩ := hbuf5.bys
      injection e5 with e51 e52 e53
      subst e51 e53
      have HRN := Lib.hid hrun5
      have HB5 := Lib.hid (HBR2.out.trans ((b4.trans (b5.mono b4.size)).mono HBR2.out.size))
      have Y5 := Lib.hid (And.intro ((y4.below b5).more b5.size) y5)
      have HS5 := Lib.hid (scanQuoted_any p5 qb q5 0 w5 y5 (by omega))
      clear hr hrun5 hbuf5 y4 y5 b4 b5 k5 e52
      go_wp2_with (at_builtin; refine wpList_append_run _ rfl (.tmp 44) (.tmp 45) _ _ rfl _ _ rfl rfl _ _ HRN.out ?_)
      refine HS5.out.mono ?_
      rintro e w6 hr
      obtain ⟨p6, q6, rfl, hbuf6, -, b6⟩ := hr.parts
      generalize rdJ (scanQ qb 0) = j6 at *
      generalize (scanQ qb 0).isSome = s6 at *
      generalize rdM (scanQ qb 0) = m6 at *
      have HBUF6 := Lib.hid hbuf6
      have HB6 := Lib.hid b6
      have hu6 := byteCells_u8 m6
      generalize Lib.byteCells m6 = cs6 at *
      generalize m6.length = n6 at *
      clear hr hbuf6 b6
      go_wp2_with fail
      go_loopw [55] (fun i wr => ∃ k : Nat, k ≤ n6 ∧ i = .int .i64 (k : Int) ∧ Below w5.heap.size w5 wr ∧ ∃ cs, AllU8 cs ∧ Buf wr w5.heap.size 1 (.slice p6 n6 q6) n6 cs) (fun i _ => n6 - (intOf i).toNat)
      case atStart => exact ⟨0, Nat.zero_le _, rfl, HB6.out, _, hu6, HBUF6.out⟩
      case round =>
        obtain ⟨k, hk, rfl, hbw, cs, hall, hbuf⟩ := hrel
        by_cases hlt : k < n6
        · obtain ⟨g, off, cp, c, hv, hg, hck, hcell, hfr, hst⟩ := hbuf.store hlt
          injection hv with hv1 hv2 hv3
          subst hv1 hv3
          obtain ⟨z, rfl⟩ := hall c (List.mem_of_getElem? hck)
          have hi0 : (0 : Int) ≤ k := by omega
          have hi1 : (k : Int) < n6 := by omega
          have ST := Lib.hid hst
          have AL := Lib.hid hall
          have BW := Lib.hid hbw
          clear hv2 hck hst hall hbw hbuf
          go_wp2_with fail
          exact ⟨⟨k + 1, by omega, by go_num, BW.out.setCell (p := ⟨g, off + k, none⟩) hg _, _, AL.out.set k _, ST.out _⟩, by simp [intOf]; omega⟩
        · have HB7 := Lib.hid (HB5.out.trans (hbw.mono HB5.out.size))
          have HBW := Lib.hid hbw
          clear hall hbuf hbw
          rename_i wr
          go_wp2_with fail
          refine (HA.out wr (HB2.out.trans (HB7.out.mono HB2.out.size))).mono ?_
          rintro e w8 ⟨rfl, b8⟩
          have HB8 := Lib.hid (HB7.out.trans (b8.mono HB7.out.size))
          have HB58 := Lib.hid (HBW.out.trans (b8.mono HBW.out.size))
          have HE8 := Lib.hid (equal_any p2 p1 q2 q1 lb lb w8 _ _ ((Y2.out.2.below HB8.out).more HB8.out.size) ((Y2.out.1.below HB8.out).more HB8.out.size) (by omega) (by omega))
          rw [decide_eq_true (rfl : lb = lb)] at HE8
          clear b8
          go_wp2_with fail
          refine HE8.out.mono ?_
          rintro e w9 ⟨rfl, b9⟩
          have HB59 := Lib.hid (HB58.out.trans (b9.mono HB58.out.size))
          have HB9 := Lib.hid (HB8.out.trans (b9.mono HB8.out.size))
          have HE9 := Lib.hid (equal_any p5 p4 q5 q4 qb qb w9 _ _ ((Y5.out.2.below HB59.out).more HB59.out.size) ((Y5.out.1.below HB59.out).more HB59.out.size) (by omega) (by omega))
          rw [decide_eq_true (rfl : qb = qb)] at HE9
          clear b9
          go_wp2_with fail
          refine HE9.out.mono ?_
          rintro e w10 ⟨rfl, b10⟩
          have HB10 := Lib.hid (HB2.out.trans ((HB9.out.trans (b10.mono HB9.out.size)).mono HB2.out.size))
          go_wp2_with fail
          go_ret
          exact ⟨rfl, HB10.out⟩

set_option maxRecDepth 100000 in
theorem quoteKeeps_walk (p : Option Addr) (cap : Nat) (l : List UInt8) (w : World) (h : Bys w w.heap.size p l) (hcap : l.length ≤ cap) (hS : Std w) :
    Calls Tryd.prog 7 #[.slice p l.length cap] w fun e w' => e = .returned (.bool true) ∧ Below w.heap.size w w' := by
  by_cases h1 : l.length ≤ 500
  · exact quoteKeeps_in p cap l w h hcap hS h1
  · have c1 : ¬ (l.length : Int) ≤ 500 := by omega
    have HA := Lib.hid (alive04_walk w hS)
    clear h hcap hS h1
    go_enter Tryd.func7, Tryd.ntmps7
    go_wp2_with fail
    refine HA.out.mono ?_
    rintro e w1 ⟨rfl, hb⟩
    go_wp2_with fail
    go_ret
    exact ⟨rfl, hb⟩
end Go.Proofs.YthoccgkkgnlbpaaDoor
