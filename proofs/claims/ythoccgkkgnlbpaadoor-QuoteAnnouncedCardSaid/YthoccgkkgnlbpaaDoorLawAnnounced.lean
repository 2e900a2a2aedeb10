/- The walk of the law QuoteAnnounced. -/
import Derived.Test.YthoccgkkgnlbpaaDoorCat
import Derived.Test.YthoccgkkgnlbpaaDoorLawForms
namespace Go.Proofs.YthoccgkkgnlbpaaDoor
open Go.RowKit
open Go.Lib (decDigits)

theorem dec_digits (m : Nat) (hm : m ≤ 4294967295) : (decDigits m).all digitB = true ∧ decDigits m ≠ [] := numB_digits (numB_dec m hm)
theorem ann_head (line : List UInt8) (m : Nat) (hm : m ≤ 4294967295) : annP (line ++ 123 :: (decDigits m ++ [125])) = some m := by
  have hd := (dec_digits m hm).1
  have e : (line ++ 123 :: (decDigits m ++ [125])).dropLast = line ++ 123 :: decDigits m := by
    rw [show line ++ 123 :: (decDigits m ++ [125]) = (line ++ 123 :: decDigits m) ++ [125] by simp, List.dropLast_concat]
  have hn : (123 : UInt8) ∉ decDigits m := fun h => digit_ne123 (List.all_eq_true.1 hd _ h) rfl
  rw [annP_at _ (by rw [show line ++ 123 :: (decDigits m ++ [125]) = (line ++ 123 :: decDigits m) ++ [125] by simp, List.getLast?_concat]) line.length (by rw [e]; exact lastIx_mk hn line), e]
  rw [show line ++ 123 :: decDigits m = (line ++ [123]) ++ decDigits m by simp, List.drop_left' (by simp)]
  exact numB_dec m hm
theorem ann_short (line : List UInt8) (m : Nat) (hm : m ≤ 4294967295) : annP (line ++ 123 :: decDigits m) = none := by
  obtain ⟨hd, hne⟩ := dec_digits m hm
  refine annP_not _ fun h => ?_
  rw [show line ++ 123 :: decDigits m = (line ++ [123]) ++ decDigits m by simp, List.getLast?_append, Option.or_of_isSome (by simpa using hne)] at h
  have := List.all_eq_true.1 hd _ (List.mem_of_getLast? h)
  revert this; decide

theorem litB_zeros (m : Nat) : litB (List.replicate m 0) = (123 :: (decDigits m ++ [125])) ++ ([13, 10] ++ List.replicate m 0) := by
  simp [litB, litH]
theorem litB_take (m : Nat) : (litB (List.replicate m 0)).take ((decDigits m).length + 2) = 123 :: (decDigits m ++ [125]) := by
  rw [litB_zeros, List.take_left' (by simp)]
theorem litB_take' (m : Nat) : (litB (List.replicate m 0)).take ((decDigits m).length + 1) = 123 :: decDigits m := by
  rw [litB_zeros, show (123 :: (decDigits m ++ [125])) ++ ([13, 10] ++ List.replicate m 0) = (123 :: decDigits m) ++ ([125] ++ ([13, 10] ++ List.replicate m 0)) by simp, List.take_left' (by simp)]
theorem litB_size (m : Nat) : (litB (List.replicate m 0)).length = (decDigits m).length + 4 + m := by
  rw [litB_zeros]; simp; omega

set_option maxRecDepth 100000 in
set_option maxHeartbeats 1600000 in
theorem quoteAnnounced_walk (p : Option Addr) (cap : Nat) (l : List UInt8) (n : Nat) (w : World) (h : Bys w w.heap.size p l) (hcap : l.length ≤ cap) (hn : n < 65536) (hS : Std w) :
    Calls Tryd.prog 5 #[.slice p l.length cap, .int .u16 (n : Int)] w fun e w' => e = .returned (.bool true) ∧ Below w.heap.size w w' := by
  by_cases hl : l.length ≤ 300
  · have hln : (l.length : Int) ≤ 300 := by omega
    obtain ⟨m, hm⟩ : ∃ m, n % 2000 = m := ⟨_, rfl⟩
    have hm1 : m < 2000 := by omega
    have hmz : (n : Int).tmod 2000 = (m : Int) := by rw [Int.tmod_eq_emod_of_nonneg (by omega)]; omega
    have hdl := decDigits_len m (by omega)
    have hd1 : 1 ≤ (decDigits m).length := by have := (dec_digits m (by omega)).2; exact List.length_pos_iff.2 this
    have hdl' : (decDigits m).length ≤ 10 := hdl
    have HT := Lib.hid (litB_take m)
    have HT' := Lib.hid (litB_take' m)
    have hsz := litB_size m
    have A1 := Lib.hid (ann_head l m (by omega))
    have A2 := Lib.hid (ann_short l m (by omega))
    have L1 : Hid ((123 :: (decDigits m ++ [125])).length = (decDigits m).length + 1 + 1) := Lib.hid (by simp)
    have L2 : Hid ((123 :: decDigits m).length = (decDigits m).length + 1) := Lib.hid (by simp)
    generalize hxx : litB (List.replicate m 0) = x at *
    have HRL : Hid (∀ W1 g, Row W1 g (List.replicate m 0) → Below w.heap.size w W1 → g < W1.heap.size → Calls Tryd.prog 15 #[.slice (some ⟨g, 0, none⟩) m m] W1 (RetB W1 x)) := Lib.hid fun W1 g hr hb hg => by
      have := literal_any (some ⟨g, 0, none⟩) m (List.replicate m 0) W1 (hr.bys.more (by omega)) (by simp; omega) (by simp) (hS.below hb)
      rw [List.length_replicate, hxx] at this
      exact this
    generalize 123 :: (decDigits m ++ [125]) = h1 at *
    generalize 123 :: decDigits m = h2 at *
    obtain ⟨k, hk⟩ : ∃ k, (decDigits m).length + 1 = k := ⟨_, rfl⟩
    rw [hk] at HT' L2 L1
    rw [show (decDigits m).length + 2 = k + 1 by omega] at HT
    have hx : (x.length : Int) - (m : Int) - 2 = (k : Int) + 1 := by omega
    have hx1 : (x.length : Int) ≤ 3000 := by omega
    have hx2 : (m : Int) ≤ x.length := by omega
    have hk1 : (2 : Int) ≤ k := by omega
    have hk2 : k ≤ 11 := by omega
    have hk3 : k + 1 ≤ x.length := by omega
    clear hsz hd1 hdl hk hdl'
    have HX := Lib.hid (And.intro hx (And.intro hx1 (And.intro hx2 (And.intro hk1 (And.intro hk2 hk3)))))
    clear hx hx1 hx2 hk1 hk2 hk3
    obtain ⟨y1, hy1⟩ : ∃ y, l ++ h1 = y := ⟨_, rfl⟩
    obtain ⟨y2, hy2⟩ : ∃ y, l ++ h2 = y := ⟨_, rfl⟩
    have HY1 : Hid (l ++ h1 = y1 ∧ y1.length ≤ 1048576) := Lib.hid ⟨hy1, by have := HX.out.2.2.2.2.1; rw [← hy1, List.length_append, L1.out]; omega⟩
    have HY2 : Hid (l ++ h2 = y2 ∧ y2.length ≤ 1048576) := Lib.hid ⟨hy2, by have := HX.out.2.2.2.2.1; rw [← hy2, List.length_append, L2.out]; omega⟩
    rw [hy1] at A1
    rw [hy2] at A2
    clear hy1 hy2
    have HS := Lib.hid hS
    have H := Lib.hid h
    generalize hll : l.length = z at *
    have HLL := Lib.hid hll
    clear hS h hll
    go_enter Tryd.func5, Tryd.ntmps5
    go_wp2_with fail
    rw [make_row m (by omega) w _ rfl]
    simp only [Result.andThen]
    rw [Oper.upon_value]
    have hr0 := row_new w (List.replicate m (0 : UInt8))
    have hB0 : Below w.heap.size w (w.alloc (.cells (Lib.byteCells (List.replicate m (0 : UInt8))).toArray 5)) := (Below.refl _ _).alloc (Nat.le_refl _) _
    have HL := Lib.hid (HRL.out _ _ hr0 hB0 hr0.lt)
    generalize w.alloc (.cells (Lib.byteCells (List.replicate m (0 : UInt8))).toArray 5) = w1 at HL hB0 ⊢
    clear hr0
    go_wp2_with fail
    refine HL.out.mono ?_
    rintro e w2 ⟨v, rfl, hf, hc2⟩
    obtain ⟨p5, c5, rfl, hc5, hy5⟩ := hf.bys
    have hb2 : Below w.heap.size w w2 := hB0.trans (hc2.mono hB0.size)
    obtain ⟨hx, hx1, hx2, hk1, hk2, hk3⟩ := HX.out
    obtain ⟨g5, o5, rfl, -, -⟩ := hy5.at (by omega)
    have H5 := Lib.hid hy5
    clear hy5
    have hk4 : (k : Int) + 1 ≤ c5 := by omega
    have hk5 : (k : Int) ≤ c5 := by omega
    clear hf hc2 HL hB0 HX
    have HK2 := Lib.hid (And.intro hk2 (And.intro hk3 hl))
    have HCC := Lib.hid (by
      have := concat2 w2 p (some ⟨g5, o5, none⟩) cap c5 l h1 ((H.out.below hb2).more hb2.size) (by
        have := H5.out.upto (k + 1)
        rw [HT.out] at this
        exact this) (by rw [HLL.out, L1.out]; omega)
      rw [HLL.out, L1.out, HY1.out.1] at this
      exact this)
    clear hk2 hk3
    go_wp2_with fail
    refine HCC.out.mono ?_
    rintro e w3 ⟨v3, rfl, hf3, hc3⟩
    have hb3 : Below w.heap.size w w3 := (hb2.alloc hb2.size _).trans (hc3.mono (by rw [World.size_alloc]; have := hb2.size; omega))
    have hb23 : Below w2.heap.size w2 w3 := ((Below.refl _ _).alloc (Nat.le_refl _) _).trans (hc3.mono (by rw [World.size_alloc]; omega))
    obtain ⟨p6, c6, rfl, hc6, hy6⟩ := hf3.bys
    have HAN := Lib.hid (announced_any p6 c6 y1 w3 hy6 HY1.out.2 hc6 (HS.out.below hb3))
    simp only [A1.out, annV_some] at HAN
    clear hf3 hc3 HCC hy6 hc6
    have H5b := Lib.hid (H5.out.below hb23)
    have HW2 := Lib.hid hb23.size
    clear hb23 hb2
    go_wp2_with fail
    refine HAN.out.mono ?_
    rintro e w4 ⟨rfl, hc4⟩
    have hb4 : Below w.heap.size w w4 := hb3.trans (hc4.mono hb3.size)
    have H5c := Lib.hid ((H5b.out.belowle hc4 HW2.out).more (Nat.le_trans HW2.out hc4.size))
    clear hc4 hb3 HAN
    have HCC := Lib.hid (by
      have := concat2 w4 p (some ⟨g5, o5, none⟩) cap c5 l h2 ((H.out.below hb4).more hb4.size) (by
        have := H5c.out.upto k
        rw [HT'.out] at this
        exact this) (by rw [HLL.out, L2.out]; have := HK2.out; omega)
      rw [HLL.out, L2.out, HY2.out.1] at this
      exact this)
    go_wp2_with fail
    refine HCC.out.mono ?_
    rintro e w5 ⟨v5, rfl, hf5, hc5⟩
    have hb5 : Below w.heap.size w w5 := (hb4.alloc hb4.size _).trans (hc5.mono (by rw [World.size_alloc]; have := hb4.size; omega))
    obtain ⟨p7, c7, rfl, hc7, hy7⟩ := hf5.bys
    have HAN := Lib.hid (announced_any p7 c7 y2 w5 hy7 HY2.out.2 hc7 (HS.out.below hb5))
    simp only [A2.out, annV_none] at HAN
    clear hf5 hc5 HCC hy7 hc7 hb4
    go_wp2_with fail
    refine HAN.out.mono ?_
    rintro e w6 ⟨rfl, hc8⟩
    have hb6 : Below w.heap.size w w6 := hb5.trans (hc8.mono hb5.size)
    clear hc8 hb5 HAN
    have HAL := Lib.hid (alive04_walk w6 (HS.out.below hb6))
    go_wp2_with fail
    refine HAL.out.mono ?_
    rintro e w7 ⟨rfl, hc9⟩
    have hb7 : Below w.heap.size w w7 := hb6.trans (hc9.mono hb6.size)
    clear hc9 hb6
    go_wp2_with fail
    go_ret
    exact ⟨rfl, hb7⟩
  · have H3 := Lib.hid (alive04_walk w hS)
    have hn1 : 300 < (l.length : Int) := by omega
    generalize l.length = k at *
    clear h hS hl hcap
    go_enter Tryd.func5, Tryd.ntmps5
    go_wp2_with fail
    refine H3.out.mono ?_
    rintro e w3 ⟨rfl, hb3⟩
    go_wp2_with fail
    go_ret
    exact ⟨rfl, hb3⟩
end Go.Proofs.YthoccgkkgnlbpaaDoor
