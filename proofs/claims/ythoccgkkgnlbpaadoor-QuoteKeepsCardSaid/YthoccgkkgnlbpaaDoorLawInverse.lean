/- The walk of the law QuoteInverse. -/
import Derived.Test.YthoccgkkgnlbpaaDoorScan5
import Derived.Test.YthoccgkkgnlbpaaDoorInvSpec
import Derived.Test.YthoccgkkgnlbpaaDoorCat
namespace Go.Proofs.YthoccgkkgnlbpaaDoor
open Go.RowKit

theorem RetB.parts {W w' : World} {l : List UInt8} {e : Ending} (h : RetB W l e w') : ∃ p c, e = .returned (.slice p l.length c) ∧ l.length ≤ c ∧ Bys w' w'.heap.size p l ∧ Below W.heap.size W w' := by
  obtain ⟨v, rfl, hb, hw⟩ := h
  obtain ⟨p, c, rfl, hc, hy⟩ := hb.bys
  exact ⟨p, c, rfl, hc, hy, hw⟩

theorem RetS.yes {W w' : World} {m : List UInt8} {j : Nat} {e : Ending} (h : RetS W (Option.some (m, j)) e w') : ∃ p c, e = .returned (.tuple #[.slice p m.length c, .int .i64 (j : Int), .bool true]) ∧ Bys w' w'.heap.size p m ∧ Below W.heap.size W w' := by
  obtain ⟨p, c, he, _, hy, hb⟩ := h.parts
  exact ⟨p, c, he, hy, hb⟩
theorem quo_len {l x : List UInt8} (h : quoB l = some x) : x.length ≤ 2 * l.length + 2 := by
  unfold quoB at h
  split at h
  · injection h with h
    subst h
    have : ∀ l : List UInt8, (l.flatMap qesc).length ≤ 2 * l.length := by
      intro l
      induction l with
      | nil => simp
      | cons c l ih =>
        rw [List.flatMap_cons, List.length_append, List.length_cons]
        have : (qesc c).length ≤ 2 := by unfold qesc; split <;> simp
        omega
    have := this l
    simp only [List.length_cons, List.length_append, List.length_nil]
    omega
  · cases h

set_option maxRecDepth 100000 in
set_option maxHeartbeats 3200000 in
theorem quoteInverse_in (pl : Option Addr) (cl : Nat) (l : List UInt8) (pf : Option Addr) (cf : Nat) (f : List UInt8) (pt : Option Addr) (ct : Nat) (t : List UInt8) (w : World)
    (h1 : Bys w w.heap.size pl l) (k1 : l.length ≤ cl) (h2 : Bys w w.heap.size pf f) (h3 : Bys w w.heap.size pt t) (hS : Std w) (b1 : l.length ≤ 500) (b2 : f.length ≤ 100) (b3 : t.length ≤ 100) :
    Calls Tryd.prog 8 #[.slice pl l.length cl, .slice pf f.length cf, .slice pt t.length ct] w fun e w' => e = .returned (.bool true) ∧ Below w.heap.size w w' := by
  have hy1 : ∀ w1, Below w.heap.size w w1 → Bys w1 w1.heap.size pl l := fun w1 hw => (h1.below hw).more hw.size
  have hy2 : ∀ w1, Below w.heap.size w w1 → Bys w1 w1.heap.size pf f := fun w1 hw => (h2.below hw).more hw.size
  have hy3 : ∀ w1, Below w.heap.size w w1 → Bys w1 w1.heap.size pt t := fun w1 hw => (h3.below hw).more hw.size
  have hll : (litB l).length ≤ 520 := by
    have := decDigits_len l.length (by omega)
    simp [litB, litH]; omega
  have HL := Lib.hid (literal_any pl cl l w h1 (by omega) k1 hS)
  have HA := Lib.hid (fun w1 (hw : Below w.heap.size w w1) => alive04_walk w1 (hS.below hw))
  have hSL := scanL_lit l f t (by omega)
  have hCC := fun (w1 : World) (p1 : Option Addr) (c1 : Nat) (hw : Below w.heap.size w w1) (y : Bys w1 w1.heap.size p1 (litB l)) => concat3 w1 pf p1 pt cf c1 ct f (litB l) t (hy2 w1 hw) y (hy3 w1 hw) (by omega)
  have hbl : (f ++ (litB l ++ t)).length ≤ 1048576 := by rw [List.length_append, List.length_append]; omega
  have hEQ := fun (w1 : World) (p1 : Option Addr) (c1 : Nat) (hw : Below w.heap.size w w1) (y : Bys w1 w1.heap.size p1 l) => equal_any p1 pl c1 cl l l w1 _ _ y (hy1 w1 hw) (by omega) (by omega)
  have hQ := fun (w1 : World) (hw : Below w.heap.size w w1) => quoted_any pl cl l w1 (hy1 w1 hw) (by omega)
  have hSQ := fun x (hx : quoB l = some x) => scanQ_quo l x f t hx
  have HEQ := Lib.hid hEQ
  rw [decide_eq_true (rfl : l = l)] at HEQ
  have HQ := Lib.hid hQ
  have HSQ := Lib.hid hSQ
  have HY2 := Lib.hid hy2
  have HY3 := Lib.hid hy3
  have HSS := Lib.hid hS
  have c1 : (l.length : Int) ≤ 500 := by omega
  have c2 : (f.length : Int) ≤ 100 := by omega
  have c3 : (t.length : Int) ≤ 100 := by omega
  clear hEQ hQ hSQ hy1 hy2 hy3 h1 h2 h3 hS k1
  generalize hbig : f ++ (litB l ++ t) = big at *
  generalize hlb : litB l = lb at *
  have HSL := Lib.hid hSL
  have HCC := Lib.hid hCC
  have HFL := Lib.hid (show ∃ fl, f.length = fl from ⟨_, rfl⟩)
  clear hSL hCC hbig hlb
  go_enter Tryd.func8, Tryd.ntmps8
  go_wp2_with fail
  refine HL.out.mono ?_
  rintro e w1 hr
  obtain ⟨p1, q1, rfl, -, y1, b1w⟩ := hr.parts
  have HB1 := Lib.hid b1w
  have HC := Lib.hid (HCC.out w1 p1 q1 b1w y1)
  clear hr y1 b1w
  go_wp2_with fail
  refine HC.out.mono ?_
  rintro e w2 hr
  obtain ⟨p2, q2, rfl, k2, y2, b2w⟩ := hr.parts
  have HB2 := Lib.hid ((HB1.out.alloc HB1.out.size _).trans (b2w.mono (HB1.out.alloc HB1.out.size _).size))
  have HS2 := Lib.hid (scanLiteral_any p2 big q2 (f.length : Int) w2 y2 hbl k2 (HSS.out.below HB2.out))
  rw [HSL.out] at HS2
  clear hr y2 b2w k2
  go_wp2_with fail
  refine HS2.out.mono ?_
  rintro e w3 hr
  obtain ⟨p3, q3, rfl, y3, b3w⟩ := RetS.yes hr
  have HB3 := Lib.hid (HB2.out.trans (b3w.mono HB2.out.size))
  have HE := Lib.hid (HEQ.out w3 p3 q3 HB3.out y3)
  clear hr y3 b3w
  go_wp2_with fail
  refine HE.out.mono ?_
  rintro e w4 ⟨rfl, b4⟩
  have HB4 := Lib.hid (HB3.out.trans (b4.mono HB3.out.size))
  have HQ4 := Lib.hid (HQ.out w4 HB4.out)
  clear b4
  go_wp2_with fail
  refine HQ4.out.mono ?_
  rintro e w5 ⟨rfl, b5⟩
  have HB5 := Lib.hid (HB4.out.trans (b5.mono HB4.out.size))
  clear b5
  cases hq : quoB l with
  | none =>
    clear hq
    rw [quoV_none]
    go_wp2_with fail
    refine (HA.out w5 HB5.out).mono ?_
    rintro e w6 ⟨rfl, b6⟩
    have HB6 := Lib.hid (HB5.out.trans (b6.mono HB5.out.size))
    clear b6
    go_wp2_with fail
    go_ret
    exact ⟨rfl, HB6.out⟩
  | some x =>
    have hsq := HSQ.out x hq
    have hxl := quo_len hq
    rw [quoV_some]
    clear hq
    obtain ⟨vx, w6, hrun, hbuf, b6⟩ := conv_new w5 (ofL x)
    rw [ofL_data, show (ofL x).size = x.length from by show x.toArray.size = _; rw [List.size_toArray]] at hbuf
    obtain ⟨p6, q6, rfl, k6, y6⟩ := hbuf.bys
    have HB6 := Lib.hid (HB5.out.trans (b6.mono HB5.out.size))
    have hcc := concat3 w6 pf p6 pt cf q6 ct f x t (HY2.out w6 HB6.out) y6 (HY3.out w6 HB6.out) (by omega)
    have hbl2 : (f ++ (x ++ t)).length ≤ 1048576 := by rw [List.length_append, List.length_append]; omega
    have hxs : (ofL x).size = x.length := by show x.toArray.size = _; rw [List.size_toArray]
    have HR := Lib.hid hrun
    generalize hbig2 : f ++ (x ++ t) = big2 at *
    have HSQ2 := Lib.hid hsq
    have HC2 := Lib.hid hcc
    clear hcc hsq hrun hbuf b6 k6 y6 hbig2
    go_wp2_with fail
    rw [HR.out]
    simp only [Result.andThen]
    rw [Oper.upon_value]
    go_wp2_with fail
    refine HC2.out.mono ?_
    rintro e w7 hr
    obtain ⟨p7, q7, rfl, k7, y7, b7⟩ := hr.parts
    have HB7 := Lib.hid ((HB6.out.alloc HB6.out.size _).trans (b7.mono (HB6.out.alloc HB6.out.size _).size))
    have HS7 := Lib.hid (scanQuoted_any p7 big2 q7 (f.length : Int) w7 y7 hbl2)
    rw [HSQ2.out] at HS7
    clear hr y7 b7 k7
    go_wp2_with fail
    refine HS7.out.mono ?_
    rintro e w8 hr
    obtain ⟨p8, q8, rfl, y8, b8⟩ := RetS.yes hr
    have HB8 := Lib.hid (HB7.out.trans (b8.mono HB7.out.size))
    have HY8 := Lib.hid y8
    clear hr y8 b8
    go_wp2_with fail
    refine (HA.out w8 HB8.out).mono ?_
    rintro e w9 ⟨rfl, b9⟩
    have HB9 := Lib.hid (HB8.out.trans (b9.mono HB8.out.size))
    have HE9 := Lib.hid (HEQ.out w9 p8 q8 HB9.out ((HY8.out.below b9).more b9.size))
    clear b9
    go_wp2_with fail
    refine HE9.out.mono ?_
    rintro e w10 ⟨rfl, b10⟩
    have HB10 := Lib.hid (HB9.out.trans (b10.mono HB9.out.size))
    clear b10
    go_wp2_with fail
    go_ret
    exact ⟨rfl, HB10.out⟩

set_option maxRecDepth 100000 in
theorem quoteInverse_walk (al : Option Addr) (cl : Nat) (l : List UInt8) (ab : Option Addr) (cb : Nat) (b : List UInt8) (aa : Option Addr) (ca : Nat) (a : List UInt8) (w : World)
    (hbl : Bys w w.heap.size al l) (hcl : l.length ≤ cl) (hbb : Bys w w.heap.size ab b) (hcb : b.length ≤ cb) (hba : Bys w w.heap.size aa a) (hca : a.length ≤ ca) (hS : Std w) :
    Calls Tryd.prog 8 #[.slice al l.length cl, .slice ab b.length cb, .slice aa a.length ca] w fun e w' => e = .returned (.bool true) ∧ Below w.heap.size w w' := by
  by_cases h1 : l.length ≤ 500
  · by_cases h2 : b.length ≤ 100
    · by_cases h3 : a.length ≤ 100
      · exact quoteInverse_in al cl l ab cb b aa ca a w hbl hcl hbb hba hS h1 h2 h3
      · have c1 : (l.length : Int) ≤ 500 := by omega
        have c2 : (b.length : Int) ≤ 100 := by omega
        have c3 : ¬ (a.length : Int) ≤ 100 := by omega
        have HA := Lib.hid (alive04_walk w hS)
        clear hbl hcl hbb hcb hba hca hS h1 h2 h3
        go_enter Tryd.func8, Tryd.ntmps8
        go_wp2_with fail
        refine HA.out.mono ?_
        rintro e w1 ⟨rfl, hb⟩
        go_wp2_with fail
        go_ret
        exact ⟨rfl, hb⟩
    · have c1 : (l.length : Int) ≤ 500 := by omega
      have c2 : ¬ (b.length : Int) ≤ 100 := by omega
      have HA := Lib.hid (alive04_walk w hS)
      clear hbl hcl hbb hcb hba hca hS h1 h2
      go_enter Tryd.func8, Tryd.ntmps8
      go_wp2_with fail
      refine HA.out.mono ?_
      rintro e w1 ⟨rfl, hb⟩
      go_wp2_with fail
      go_ret
      exact ⟨rfl, hb⟩
  · have c1 : ¬ (l.length : Int) ≤ 500 := by omega
    have HA := Lib.hid (alive04_walk w hS)
    clear hbl hcl hbb hcb hba hca hS h1
    go_enter Tryd.func8, Tryd.ntmps8
    go_wp2_with fail
    refine HA.out.mono ?_
    rintro e w1 ⟨rfl, hb⟩
    go_wp2_with fail
    go_ret
    exact ⟨rfl, hb⟩
end Go.Proofs.YthoccgkkgnlbpaaDoor
