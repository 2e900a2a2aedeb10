/- The walk of the law TokenJoins. -/
import Derived.Test.YtkifhgnoadmfkaaDoorLawTok1
import Derived.Test.YtkifhgnoadmfkaaDoorJoin
set_option linter.unusedVariables false
set_option linter.unusedSimpArgs false
namespace Go.Proofs.YtkifhgnoadmfkaaDoor
open Go.RowKit

theorem Toks.kinds {l : List UInt8} {k : Nat} {ts : List Tok} (h : Toks l k ts) : k ≤ l.length → ∀ t ∈ ts, t.kind ≤ 6 ∧ t.text.length ≤ l.length := by
  induction h with
  | fin k t j h h0 =>
    intro hk t' ht
    rw [List.mem_singleton] at ht
    subst ht
    rcases (nextT_some hk h).2 with hs | hs
    · exact ⟨by omega, by rw [hs.2.2.2]; simp⟩
    · exact ⟨hs.2.1, hs.2.2.2.2⟩
  | step k t j r h h0 hr ih =>
    intro hk t' ht
    have hs := (nextT_some hk h).2
    rcases hs with hs | hs
    · exact absurd hs.1 h0
    · rcases List.mem_cons.1 ht with rfl | ht
      · exact ⟨hs.2.1, hs.2.2.2.2⟩
      · exact ih hs.2.2.2.1 t' ht

set_option maxRecDepth 100000 in
set_option maxHeartbeats 1600000 in
theorem tokenJoins_walk (p : Option Addr) (cap : Nat) (l : List UInt8) (w : World) (h : Bys w w.heap.size p l) (hcap : l.length ≤ cap) (hS : Std w) :
    Calls Tryd.prog 6 #[.slice p l.length cap] w fun e w' => e = .returned (.bool true) ∧ Below w.heap.size w w' := by
  have HA := Lib.hid (fun w1 (hb : Below w.heap.size w w1) => alive06_walk w1 (hS.below hb))
  by_cases hl : l.length ≤ 2000
  · have hl2 : (l.length : Int) ≤ 2000 := by omega
    have H1 := (tokens_any p l cap w h (by omega) hcap hS).mono fun _ _ h => h.toks
    cases ht : tokens l with
    | inr e =>
      rw [ht, show lstT (.inr e) = [] from rfl, show atT (.inr e) = (e : Int) from rfl] at H1
      have H1' := Lib.hid H1
      have he : (0 : Int) ≤ e := by omega
      clear hS h H1 ht
      generalize l.length = n at *
      go_enter Tryd.func6, Tryd.ntmps6
      go_wp2_with fail
      refine H1'.out.mono ?_
      rintro e1 w1 ⟨A1, c1, rfl, -, b1⟩
      have HB1 := Lib.hid b1
      clear b1
      rw [show ([] : List Tok).length = 0 from rfl]
      go_wp2_with fail
      refine (HA.out _ HB1.out).mono ?_
      rintro e3 w3 ⟨rfl, b3⟩
      have HB3 := Lib.hid (HB1.out.trans (b3.mono HB1.out.size))
      clear b3
      go_wp2_with fail
      go_ret
      exact ⟨rfl, HB3.out⟩
    | inl ts =>
      have hlt := lstT_len l
      have hjn := tokens_join ht
      have hkd := (tokens_iff.1 ht).kinds (Nat.zero_le _)
      rw [ht, show lstT (.inl ts) = ts from rfl, show atT (.inl ts) = -1 from rfl] at H1
      rw [ht, show lstT (.inl ts) = ts from rfl] at hlt
      have H1' := Lib.hid H1
      have HJ := Lib.hid (fun A1 c1 W (hb : Below w.heap.size w W) (h1 : TkIn W W.heap.size A1 ts) => join_any A1 c1 ts W h1 (fun i hi => (hkd _ (List.getElem_mem hi)).1) (fun i hi => Nat.le_trans (hkd _ (List.getElem_mem hi)).2 (by omega)) (by omega) (by rw [hjn]; omega) (hS.below hb))
      rw [hjn] at HJ
      have HE := Lib.hid (fun p1 c1 W (h1 : Bys W W.heap.size p1 l) (hb : Below w.heap.size w W) => equal_any p1 p c1 cap l l W _ _ h1 (h.below hb) (by omega) (by omega))
      rw [decide_eq_true rfl] at HE
      clear hS h H1 ht hlt hjn hkd
      generalize ts.length = tn at *
      have HBB : Hid (∀ W e' w', RetB W l e' w' → ∃ p c, e' = .returned (.slice p l.length c) ∧ Bys w' w'.heap.size p l ∧ Below W.heap.size W w') := Lib.hid (fun W e' w' ⟨v, e1, hb, hw⟩ => by
        obtain ⟨p, c, rfl, _, hy⟩ := hb.bys
        exact ⟨p, c, e1, hy, hw⟩)
      have HBL := Lib.hid (fun A1 c1 W hb h1 => (HJ.out A1 c1 W hb h1).mono (fun e' w' hr => HBB.out W e' w' hr))
      clear HJ HBB
      generalize l.length = n at *
      go_enter Tryd.func6, Tryd.ntmps6
      go_wp2_with fail
      refine H1'.out.mono ?_
      rintro e1 w1 ⟨A1, c1, rfl, t1, b1⟩
      have HB1 := Lib.hid b1
      have T1 := Lib.hid t1
      clear b1 t1
      go_wp2_with fail
      refine (HA.out _ HB1.out).mono ?_
      rintro e3 w3 ⟨rfl, b3⟩
      have HB3 := Lib.hid (HB1.out.trans (b3.mono HB1.out.size))
      have T3 := Lib.hid ((T1.out.below b3).more b3.size)
      clear b3
      go_wp2_with fail
      refine (HBL.out _ _ _ HB3.out T3.out).mono ?_
      rintro e4 w4 ⟨p4, c4, rfl, y4, b4⟩
      have HB4 := Lib.hid (HB3.out.trans (b4.mono HB3.out.size))
      have Y4 := Lib.hid y4
      clear b4 y4
      go_wp2_with fail
      refine (HE.out _ _ _ Y4.out HB4.out).mono ?_
      rintro e5 w5 ⟨rfl, b5⟩
      have HB5 := Lib.hid (HB4.out.trans (b5.mono HB4.out.size))
      clear b5
      go_wp2_with fail
      go_ret
      exact ⟨rfl, HB5.out⟩
  · have hl2 : 2000 < (l.length : Int) := by omega
    clear hS h hcap
    generalize l.length = n at *
    go_enter Tryd.func6, Tryd.ntmps6
    go_wp2_with fail
    refine (HA.out _ (Below.refl _ _)).mono ?_
    rintro e w1 ⟨rfl, hb⟩
    have HB := Lib.hid hb
    clear hb
    go_wp2_with fail
    go_ret
    exact ⟨rfl, HB.out⟩
end Go.Proofs.YtkifhgnoadmfkaaDoor
