/- The walks of the laws TokenTags and TokenReads. -/
import Derived.Test.YtkifhgnoadmfkaaDoorJ13
import Derived.Test.YtkifhgnoadmfkaaDoorJ14
set_option linter.unusedVariables false
set_option linter.unusedSimpArgs false
namespace Go.Proofs.YtkifhgnoadmfkaaDoor
open Go.RowKit

theorem toksT_len (l : List UInt8) : ∀ (m k : Nat), (lstT (toksT l m k)).length ≤ m
  | 0, k => by simp [toksT, lstT]
  | m + 1, k => by
    unfold toksT
    cases nextT l k with
    | none => simp [lstT]
    | some x =>
      obtain ⟨t, j⟩ := x
      dsimp only
      split
      · simp [lstT]
      · have ih := toksT_len l m j
        cases h : toksT l m j with
        | inl r => rw [h] at ih; simp only [lstT, List.length_cons] at ih ⊢; omega
        | inr e => simp [lstT]
theorem lstT_len (l : List UInt8) : (lstT (tokens l)).length ≤ l.length + 1 := toksT_len l _ _
theorem TkPost.toks {W w' : World} {o : List Tok ⊕ Nat} {e : Ending} (h : TkPost W o e w') : ∃ A c, e = .returned (.tuple #[.slice A (lstT o).length c, .int .i64 (atT o)]) ∧ TkIn w' w'.heap.size A (lstT o) ∧ Below W.heap.size W w' := by
  obtain ⟨v, rfl, hb, hw⟩ := h
  obtain ⟨A, c, rfl, -, ht⟩ := hb.toks
  exact ⟨A, c, rfl, ht, hw⟩

set_option maxRecDepth 100000 in
set_option maxHeartbeats 1600000 in
theorem tokenTags_walk (p : Option Addr) (cap : Nat) (l : List UInt8) (w : World) (h : Bys w w.heap.size p l) (hcap : l.length ≤ cap) (hn : p = none → l.length = 0 ∧ cap = 0) (hS : Std w) :
    Calls Tryd.prog 3 #[.slice p l.length cap] w fun e w' => e = .returned (.bool true) ∧ Below w.heap.size w w' := by
  have HA := Lib.hid (fun w1 (hb : Below w.heap.size w w1) => alive06_walk w1 (hS.below hb))
  by_cases hl : l.length ≤ 2000
  · have H1 := Lib.hid (tokTag_any p cap l w h hn (by omega) hcap)
    have H2 := Lib.hid (fun w1 (hb : Below w.heap.size w w1) => rTokTag_any p cap l w1 ((h.below hb).more hb.size) (by omega) hcap)
    unfold tagV at H1 H2
    generalize ofL _ = s at H1 H2
    generalize (((Option.map _ (tagT l tgB)).getD 0 : Nat) : Int) = x at H1 H2
    generalize (tagT l tgB).isSome = ok at H1 H2
    have hl2 : (l.length : Int) ≤ 2000 := by omega
    clear hS h hn
    generalize l.length = n at *
    go_enter Tryd.func3, Tryd.ntmps3
    go_wp2_with fail
    refine H1.out.mono ?_
    rintro e w1 ⟨rfl, b1⟩
    have HB1 := Lib.hid b1
    clear b1
    go_wp2_with fail
    refine (H2.out _ HB1.out).mono ?_
    rintro e w2 ⟨rfl, rfl⟩
    go_wp2_with fail
    refine (HA.out _ HB1.out).mono ?_
    rintro e w3 ⟨rfl, b3⟩
    have HB3 := Lib.hid (HB1.out.trans (b3.mono HB1.out.size))
    clear b3
    go_wp2_with fail
    go_ret
    exact ⟨rfl, HB3.out⟩
  · have hl2 : 2000 < (l.length : Int) := by omega
    clear hS h hcap hn
    generalize l.length = n at *
    go_enter Tryd.func3, Tryd.ntmps3
    go_wp2_with fail
    refine (HA.out _ (Below.refl _ _)).mono ?_
    rintro e w1 ⟨rfl, hb⟩
    have HB := Lib.hid hb
    clear hb
    go_wp2_with fail
    go_ret
    exact ⟨rfl, HB.out⟩

set_option maxRecDepth 100000 in
set_option maxHeartbeats 1600000 in
theorem tokenReads_walk (p : Option Addr) (cap : Nat) (l : List UInt8) (w : World) (h : Bys w w.heap.size p l) (hcap : l.length ≤ cap) (hS : Std w) :
    Calls Tryd.prog 4 #[.slice p l.length cap] w fun e w' => e = .returned (.bool true) ∧ Below w.heap.size w w' := by
  have HA := Lib.hid (fun w1 (hb : Below w.heap.size w w1) => alive06_walk w1 (hS.below hb))
  by_cases hl : l.length ≤ 2000
  · have H1 := Lib.hid ((tokens_any p l cap w h (by omega) hcap hS).mono fun _ _ h => h.toks)
    have H2 := Lib.hid (fun w1 (hb : Below w.heap.size w w1) => (rTokens_any p l cap w1 ((h.below hb).more hb.size) (by omega) hcap).mono fun _ _ h => h.toks)
    have hlt := lstT_len l
    have HE := Lib.hid (fun A1 A2 c1 c2 W (h1 : TkIn W W.heap.size A1 (lstT (tokens l))) (h2 : TkIn W W.heap.size A2 (lstT (tokens l))) => same06_any A1 A2 c1 c2 (lstT (tokens l)) W h1 h2 (by omega))
    generalize lstT (tokens l) = ts at *
    generalize atT (tokens l) = x at *
    have hl2 : (l.length : Int) ≤ 2000 := by omega
    clear hS h
    generalize ts.length = tn at *
    generalize l.length = n at *
    go_enter Tryd.func4, Tryd.ntmps4
    go_wp2_with fail
    refine H1.out.mono ?_
    rintro e w1 ⟨A1, c1, rfl, t1, b1⟩
    have HB1 := Lib.hid b1
    have T1 := Lib.hid t1
    clear b1 t1
    go_wp2_with fail
    refine (H2.out _ HB1.out).mono ?_
    rintro e w2 ⟨A2, c2, rfl, t2, b2⟩
    have HB2 := Lib.hid (HB1.out.trans (b2.mono HB1.out.size))
    have T2 := Lib.hid (And.intro ((T1.out.below b2).more b2.size) t2)
    clear b2 t2
    go_wp2_with fail
    refine (HA.out _ HB2.out).mono ?_
    rintro e w3 ⟨rfl, b3⟩
    have HB3 := Lib.hid (HB2.out.trans (b3.mono HB2.out.size))
    have T3 := Lib.hid (And.intro ((T2.out.1.below b3).more b3.size) ((T2.out.2.below b3).more b3.size))
    clear b3
    go_wp2_with fail
    refine (HE.out A1 A2 c1 c2 _ T3.out.1 T3.out.2).mono ?_
    rintro e w4 ⟨rfl, b4⟩
    have HB4 := Lib.hid (HB3.out.trans (b4.mono HB3.out.size))
    clear b4
    go_wp2_with fail
    go_ret
    exact ⟨rfl, HB4.out⟩
  · have hl2 : 2000 < (l.length : Int) := by omega
    clear hS h hcap
    generalize l.length = n at *
    go_enter Tryd.func4, Tryd.ntmps4
    go_wp2_with fail
    refine (HA.out _ (Below.refl _ _)).mono ?_
    rintro e w1 ⟨rfl, hb⟩
    have HB := Lib.hid hb
    clear hb
    go_wp2_with fail
    go_ret
    exact ⟨rfl, HB.out⟩
end Go.Proofs.YtkifhgnoadmfkaaDoor
