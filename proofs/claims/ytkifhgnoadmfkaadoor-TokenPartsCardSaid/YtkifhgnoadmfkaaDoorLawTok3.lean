/- The walk of the law TokenParts. -/
import Derived.Test.YtkifhgnoadmfkaaDoorLawTok1
import Derived.Test.YtkifhgnoadmfkaaDoorJ18
import Derived.Test.YtkifhgnoadmfkaaDoorCat
set_option linter.unusedVariables false
set_option linter.unusedSimpArgs false
namespace Go.Proofs.YtkifhgnoadmfkaaDoor
open Go.RowKit

/-- The tokens of the whole, one by one. -/
theorem parts_at {ts ys : List Tok} {n k : Nat} (hne : ts ≠ []) (hk : k < (ts.dropLast ++ (⟨1, [], n⟩ :: ys.map (shT (n + 1)))).length) :
    (∀ h : k < ts.length - 1, (ts.dropLast ++ (⟨1, [], n⟩ :: ys.map (shT (n + 1))))[k] = ts[k]) ∧ (k = ts.length - 1 → (ts.dropLast ++ (⟨1, [], n⟩ :: ys.map (shT (n + 1))))[k] = ⟨1, [], n⟩) ∧
    (∀ j, k = ts.length + j → ∃ hj : j < ys.length, (ts.dropLast ++ (⟨1, [], n⟩ :: ys.map (shT (n + 1))))[k] = shT (n + 1) ys[j]) := by
  have h0 : 0 < ts.length := List.length_pos_iff.2 hne
  have hd : ts.dropLast.length = ts.length - 1 := List.length_dropLast
  refine ⟨fun h => ?_, fun h => ?_, fun j h => ?_⟩
  · rw [List.getElem_append_left (by rw [hd]; exact h), List.getElem_dropLast]
  · subst h
    rw [List.getElem_append_right (by omega)]
    simp only [hd, Nat.sub_self, List.getElem_cons_zero]
  · subst h
    rw [List.length_append, hd, List.length_cons, List.length_map] at hk
    have hj : j < ys.length := by omega
    refine ⟨hj, ?_⟩
    rw [List.getElem_append_right (by omega)]
    simp only [hd, show ts.length + j - (ts.length - 1) = j + 1 by omega, List.getElem_cons_succ, List.getElem_map]
theorem parts_len {ts ys : List Tok} {n : Nat} (hne : ts ≠ []) : (ts.dropLast ++ (⟨1, [], n⟩ :: ys.map (shT (n + 1)))).length = ts.length + ys.length := by
  have h0 : 0 < ts.length := List.length_pos_iff.2 hne
  rw [List.length_append, List.length_dropLast, List.length_cons, List.length_map]; omega

theorem Toks.ats {l : List UInt8} {k : Nat} {ts : List Tok} (h : Toks l k ts) : k ≤ l.length → ∀ t ∈ ts, t.at0 ≤ l.length := by
  induction h with
  | fin k t j h h0 =>
    intro hk t' ht
    rw [List.mem_singleton] at ht
    subst ht
    rw [(nextT_some hk h).1]; exact hk
  | step k t j r h h0 hr ih =>
    intro hk t' ht
    have hs := nextT_some hk h
    rcases List.mem_cons.1 ht with rfl | ht
    · rw [hs.1]; exact hk
    · rcases hs.2 with hs | hs
      · exact absurd hs.1 h0
      · exact ih hs.2.2.2.1 t' ht

set_option maxRecDepth 100000 in
set_option maxHeartbeats 3200000 in
theorem tokenParts_main (p r : Option Addr) (cap cap' : Nat) (l q : List UInt8) (w : World) (h : Bys w w.heap.size p l) (hcap : l.length ≤ cap) (h' : Bys w w.heap.size r q) (hcap' : q.length ≤ cap') (hS : Std w) (hl : l.length ≤ 1000) (hq : q.length ≤ 1000) (ts ys : List Tok)
    (ht : tokens l = .inl ts) (hu : tokens q = .inl ys) :
    Calls Tryd.prog 5 #[.slice p l.length cap, .slice r q.length cap'] w fun e w' => e = .returned (.bool true) ∧ Below w.heap.size w w' := by
  have HA := Lib.hid (fun w1 (hb : Below w.heap.size w w1) => alive06_walk w1 (hS.below hb))
  have H1 := (rTokens_any p l cap w h (by omega) hcap).mono fun _ _ h => h.toks
  have H2 := fun w1 (hb : Below w.heap.size w w1) => (rTokens_any r q cap' w1 ((h'.below hb).more hb.size) (by omega) hcap').mono fun _ _ h => h.toks
  have hts := Toks.ne (tokens_iff.1 ht)
  have ht1 : ts.length ≤ 1001 := by have := lstT_len l; rw [ht] at this; exact Nat.le_trans this (by omega)
  have hu1 : ys.length ≤ 1001 := by have := lstT_len q; rw [hu] at this; exact Nat.le_trans this (by omega)
  have HAT := Lib.hid (fun j (hj : j < ys.length) => Nat.le_trans ((tokens_iff.1 hu).ats (Nat.zero_le _) _ (List.getElem_mem hj)) hq)
  have hL : tokens (l ++ ([32] ++ q)) = .inl (ts.dropLast ++ (⟨1, [], l.length⟩ :: ys.map (shT (l.length + 1)))) := tokens_iff.2 ((tokens_iff.1 ht).parts (tokens_iff.1 hu) (Nat.zero_le _))
  have PA := Lib.hid (fun k (hk : k < (ts.dropLast ++ (⟨1, [], l.length⟩ :: ys.map (shT (l.length + 1)))).length) => parts_at (n := l.length) (ys := ys) hts hk)
  have PL := parts_len (ys := ys) (n := l.length) hts
  rw [ht] at H1
  rw [hu] at H2
  generalize ts.dropLast ++ (⟨1, [], l.length⟩ :: ys.map (shT (l.length + 1))) = L at hL PA PL
  have HC : Hid (∀ w1, Below w.heap.size w w1 → Calls Tryd.prog 14 #[.slice (some ⟨w1.heap.size + 1, 0, none⟩) 3 3] ((w1.alloc (.cells #[.int .u8 32] 5 (1, 2))).alloc (.cells #[.slice p l.length cap, .slice (some ⟨w1.heap.size, 0, none⟩) 1 1, .slice r q.length cap'] 22))
      (RetB ((w1.alloc (.cells #[.int .u8 32] 5 (1, 2))).alloc (.cells #[.slice p l.length cap, .slice (some ⟨w1.heap.size, 0, none⟩) 1 1, .slice r q.length cap'] 22)) (l ++ ([32] ++ q)))) := Lib.hid (fun w1 hb => by
    have hc := concat3 (w1.alloc (.cells (Lib.byteCells [32]).toArray 5 (1, 2))) p (some ⟨w1.heap.size, 0, none⟩) r cap 1 cap' l [32] q
      (((h.below hb).more hb.size).past (Nat.le_refl _) _ |>.more (by rw [World.size_alloc]; omega)) (const_bys w1 [32] (1, 2)) (((h'.below hb).more hb.size).past (Nat.le_refl _) _ |>.more (by rw [World.size_alloc]; omega)) (by simp only [List.length_singleton]; omega)
    rw [World.size_alloc] at hc
    exact hc)
  have HT := Lib.hid (fun P3 c3 w1 (hb : Below w.heap.size w w1) (hy : Bys w1 w1.heap.size P3 (l ++ ([32] ++ q))) (hc : (l ++ ([32] ++ q)).length ≤ c3) => (tokens_any P3 (l ++ ([32] ++ q)) c3 w1 hy (by simp only [List.length_append, List.length_singleton]; omega) hc (hS.below hb)).mono fun _ _ h => h.toks)
  rw [hL] at HT
  generalize l ++ ([32] ++ q) = LL at HC HT
  have h0 : 0 < ts.length := List.length_pos_iff.2 hts
  have H1' := Lib.hid H1
  have H2' := Lib.hid H2
  have hl2 : (l.length : Int) ≤ 1000 := by omega
  have hq2 : (q.length : Int) ≤ 1000 := by omega
  clear hS h h' ht hu H1 H2 hts hL
  rw [show lstT (.inl ts) = ts from rfl, show atT (.inl ts) = -1 from rfl] at H1'
  rw [show lstT (.inl ys) = ys from rfl, show atT (.inl ys) = -1 from rfl] at H2'
  rw [show lstT (.inl L) = L from rfl, show atT (.inl L) = -1 from rfl] at HT
  have kc := fun (w : World) (C : Array Value) (n c : Nat) => Lib.run_convert_bytes_const (P := Tryd.prog) w 22 5 C n c Tryd.underlying22 Tryd.underlying5
  generalize l.length = n at *
  generalize q.length = m at *
  have hmn : min (n : Int) 1000 = n := by omega
  have hmm : min (m : Int) 1000 = m := by omega
  have HB0 : Hid (Below w.heap.size w w) := Lib.hid (Below.refl _ _)
  go_enter Tryd.func5, Tryd.ntmps5
  go_wp2_with fail
  refine H1'.out.mono ?_
  rintro e w1 ⟨A1, c1, rfl, t1, b1⟩
  have HB1 := Lib.hid b1
  have T1 := Lib.hid t1
  clear b1 t1
  go_wp2_with fail
  refine (H2'.out _ HB1.out).mono ?_
  rintro e w2 ⟨A2, c2, rfl, t2, b2⟩
  have HB2 := Lib.hid (HB1.out.trans (b2.mono HB1.out.size))
  have T2 := Lib.hid (And.intro ((T1.out.below b2).more b2.size) t2)
  clear b2 t2
  go_wp2_with fail
  refine (HC.out _ HB2.out).mono ?_
  rintro e w3 ⟨v3, rfl, hb3, b3⟩
  obtain ⟨p3, c3, rfl, hc3, y3⟩ := Buf.bys hb3
  have hsz2 := HB2.out.size
  have HX2 : Hid (Below w2.heap.size w2 w3) := Lib.hid ((((Below.refl _ _).alloc (Nat.le_refl _) _).alloc (by rw [World.size_alloc]; omega) _).trans (b3.mono (by simp only [World.size_alloc]; omega)))
  have HB3 := Lib.hid (HB2.out.trans (HX2.out.mono hsz2))
  have T3 := Lib.hid (And.intro ((T2.out.1.below HX2.out).more HX2.out.size) ((T2.out.2.below HX2.out).more HX2.out.size))
  have HT3 := Lib.hid (HT.out p3 c3 w3 HB3.out y3 hc3)
  clear b3 hb3 y3 hc3 HC HT
  generalize LL.length = ll at *
  go_wp2_with fail
  refine HT3.out.mono ?_
  rintro e w4 ⟨A4, c4, rfl, t4, b4⟩
  have HB4 := Lib.hid (HB3.out.trans (b4.mono HB3.out.size))
  have T4 := Lib.hid (And.intro t4 (And.intro ((T3.out.1.below b4).more b4.size) ((T3.out.2.below b4).more b4.size)))
  clear b4 t4
  obtain ⟨n1, hn1⟩ : ∃ n1, ts.length = n1 := ⟨_, rfl⟩
  obtain ⟨n2, hn2⟩ : ∃ n2, ys.length = n2 := ⟨_, rfl⟩
  rw [hn1] at h0 ht1 PL ⊢
  rw [hn2] at hu1 PL ⊢
  have HN1 := Lib.hid hn1
  have HN2 := Lib.hid hn2
  have HPL := Lib.hid PL
  rw [PL]
  clear hn1 hn2 PL HT3 H1' H2'
  have hneq : (((n1 + n2 : Nat) : Int) != (n1 : Int) + (n2 : Int)) = false := by rw [bne_eq_false_iff_eq]; omega
  obtain ⟨nn, hnn⟩ : ∃ nn, n1 + n2 = nn := ⟨_, rfl⟩
  rw [hnn] at hneq ⊢
  rw [hnn] at HPL
  have HNN := Lib.hid hnn
  clear hnn
  go_wp2_with fail
  go_loopw [73] (fun i wr => ∃ k : Nat, k ≤ nn ∧ i = .int .i64 k ∧ Below w.heap.size w wr ∧ Below w4.heap.size w4 wr) (fun i _ => nn - (intOf i).toNat)
  case atStart => exact ⟨0, Nat.zero_le _, rfl, HB4.out, Below.refl _ _⟩
  case round =>
    obtain ⟨k, hk, rfl, hw0, hw⟩ := hrel
    have HW0 := Lib.hid hw0
    have HW := Lib.hid hw
    have hsz4 : w4.heap.size ≤ wr.heap.size := hw.size
    have hsz0 : w.heap.size ≤ wr.heap.size := hw0.size
    have hnb : nn ≤ 2002 := by have := HNN.out; omega
    by_cases hkn : k < nn
    · have hkL : k < L.length := by rw [HPL.out]; exact hkn
      obtain ⟨g4, o4, rfl, hg4, a1, a2, a3⟩ := T4.out.1.below hw k hkL
      obtain ⟨t, ht⟩ : ∃ t, L[k] = t := ⟨_, rfl⟩
      obtain ⟨pa1, pa2, pa3⟩ := PA.out k hkL
      rw [ht] at a1 a2 a3 pa1 pa2 pa3
      have hg4' : g4 < wr.heap.size := by omega
      have hk0 : (0 : Int) ≤ k := by omega
      have hk1 : (k : Int) < nn := by omega
      by_cases q1 : k < n1 - 1
      · have e := pa1 (by rw [HN1.out]; exact q1)
        obtain ⟨g1, o1, rfl, hg1, b1, b2, b3⟩ := T4.out.2.1.below hw k (by rw [HN1.out]; omega)
        rw [← e] at b1 b2 b3
        have hg1' : g1 < wr.heap.size := by omega
        have hc1 : decide ((k : Int) < (n1 : Int) - 1) = true := decide_eq_true (by omega)
        have hkn1 : (k : Int) < n1 := by omega
        clear pa1 pa2 pa3 ht e hw hw0
        generalize (t.kind : Int) = x at *
        generalize (⟨t.text.toArray⟩ : ByteArray) = y at *
        generalize (t.at0 : Int) = z at *
        go_wp2_with fail
        go_quiet (fail)
        go_wp2_with fail
        go_roundw
        case rel => exact ⟨k + 1, by omega, by go_num, YtkifhgnoadmfkaaDoor.Below.many (HW0.out.alloc hsz0 _) nq, YtkifhgnoadmfkaaDoor.Below.many (HW.out.alloc hsz4 _) nq⟩
        case measure => simp [intOf]; omega
      · by_cases q2 : k = n1 - 1
        · have e := pa2 (by rw [HN1.out]; exact q2)
          subst e
          have hc1 : decide ((k : Int) < (n1 : Int) - 1) = false := decide_eq_false (by omega)
          have hc2 : ((k : Int) == (n1 : Int) - 1) = true := by rw [beq_iff_eq]; omega
          dsimp only at a1 a2 a3
          rw [show (((1 : Nat) : Int)) = 1 from rfl] at a1
          clear pa1 pa2 pa3 ht hw hw0 q2
          go_wp2_with fail
          go_roundw
          case rel => exact ⟨k + 1, by omega, by go_num, HW0.out.alloc hsz0 _, HW.out.alloc hsz4 _⟩
          case measure => simp [intOf]; omega
        · obtain ⟨j, hj⟩ : ∃ j, k = n1 + j := ⟨k - n1, by omega⟩
          obtain ⟨hj2, e⟩ := pa3 j (by rw [HN1.out]; exact hj)
          obtain ⟨g2, o2, rfl, hg2, b1, b2, b3⟩ := T4.out.2.2.below hw j hj2
          have hat := HAT.out j hj2
          have hjn : j < n2 := by rw [← HN2.out]; exact hj2
          obtain ⟨u, hu⟩ : ∃ u, ys[j] = u := ⟨_, rfl⟩
          rw [hu] at b1 b2 b3 e hat
          subst e
          have hg2' : g2 < wr.heap.size := by omega
          have hc1 : decide ((k : Int) < (n1 : Int) - 1) = false := decide_eq_false (by omega)
          have hc2 : ((k : Int) == (n1 : Int) - 1) = false := by rw [beq_eq_false_iff_ne]; omega
          have hidx : (k : Int) - (n1 : Int) = (j : Int) := by omega
          have hj0 : (0 : Int) ≤ j := by omega
          have hj1 : (j : Int) < n2 := by omega
          have a3' : wr.cell? ⟨g4, o4 + k * 3 + 2, none⟩ = some (.int .i64 ((u.at0 : Int) + ((n : Int) + 1))) := by
            rw [a3]; congr 2; show ((n + 1 + u.at0 : Nat) : Int) = _; omega
          have a1' : wr.cell? ⟨g4, o4 + k * 3, none⟩ = some (.int .i64 (u.kind : Int)) := a1
          have a2' : wr.cell? ⟨g4, o4 + k * 3 + 1, none⟩ = some (.string ⟨u.text.toArray⟩) := a2
          have hz0 : (0 : Int) ≤ (u.at0 : Int) := by omega
          have hz1 : (u.at0 : Int) ≤ 1000 := by omega
          clear pa1 pa2 pa3 ht hu a1 a2 a3 hw hw0 hat q1 q2 hj
          generalize (u.kind : Int) = x at *
          generalize (⟨u.text.toArray⟩ : ByteArray) = y at *
          generalize (u.at0 : Int) = z at *
          go_wp2_with fail
          go_roundw
          case rel => exact ⟨k + 1, by omega, by go_num, (HW0.out.alloc hsz0 _).alloc (by rw [World.size_alloc]; omega) _, (HW.out.alloc hsz4 _).alloc (by rw [World.size_alloc]; omega) _⟩
          case measure => simp [intOf]; omega
    · go_wp2_with fail
      refine (HA.out _ HW0.out).mono ?_
      rintro e w5 ⟨rfl, b5⟩
      have HB5 := Lib.hid (HW0.out.trans (b5.mono HW0.out.size))
      clear b5
      go_wp2_with fail
      go_ret
      exact ⟨rfl, HB5.out⟩

set_option maxRecDepth 100000 in
set_option maxHeartbeats 3200000 in
theorem tokenParts_early (p r : Option Addr) (cap cap' n m : Nat) (la qa : List UInt8) (w : World) (h : Bys w w.heap.size p la) (hcap : la.length ≤ cap) (h' : Bys w w.heap.size r qa) (hcap' : qa.length ≤ cap') (hS : Std w) (hl : la.length = min n 1000) (hq : qa.length = min m 1000)
    (hc : 1000 < n ∨ (n ≤ 1000 ∧ 1000 < m) ∨ (n ≤ 1000 ∧ m ≤ 1000 ∧ 0 ≤ atT (tokens la)) ∨ (n ≤ 1000 ∧ m ≤ 1000 ∧ atT (tokens la) = -1 ∧ 0 ≤ atT (tokens qa))) :
    Calls Tryd.prog 5 #[.slice p n cap, .slice r m cap'] w fun e w' => e = .returned (.bool true) ∧ Below w.heap.size w w' := by
  have HA := Lib.hid (fun w1 (hb : Below w.heap.size w w1) => alive06_walk w1 (hS.below hb))
  have H1 := Lib.hid ((rTokens_any p la cap w h (by omega) hcap).mono fun _ _ h => h.toks)
  have H2 := Lib.hid (fun w1 (hb : Below w.heap.size w w1) => (rTokens_any r qa cap' w1 ((h'.below hb).more hb.size) (by omega) hcap').mono fun _ _ h => h.toks)
  generalize atT (tokens la) = x1 at *
  generalize atT (tokens qa) = x2 at *
  generalize lstT (tokens la) = ts at *
  generalize lstT (tokens qa) = ys at *
  clear hS h h'
  generalize la.length = n' at *
  generalize qa.length = m' at *
  have hmn : min (n : Int) 1000 = (n' : Int) := by omega
  have hmm : min (m : Int) 1000 = (m' : Int) := by omega
  clear hl hq
  rcases hc with c1 | ⟨c1, c2⟩ | ⟨c1, c2, c3⟩ | ⟨c1, c2, rfl, c4⟩
  · have d1 : (1000 : Int) < n := by omega
    clear c1
    go_enter Tryd.func5, Tryd.ntmps5
    go_wp2_with fail
    refine H1.out.mono ?_
    rintro e w1 ⟨A1, c1, rfl, -, b1⟩
    have HB1 := Lib.hid b1
    clear b1
    go_wp2_with fail
    refine (H2.out _ HB1.out).mono ?_
    rintro e w2 ⟨A2, c2, rfl, -, b2⟩
    have HB2 := Lib.hid (HB1.out.trans (b2.mono HB1.out.size))
    clear b2
    go_wp2_with fail
    refine (HA.out _ HB2.out).mono ?_
    rintro e w5 ⟨rfl, b5⟩
    have HB5 := Lib.hid (HB2.out.trans (b5.mono HB2.out.size))
    clear b5
    go_wp2_with fail
    go_ret
    exact ⟨rfl, HB5.out⟩
  · have d1 : (n : Int) ≤ 1000 := by omega
    have d2 : (1000 : Int) < m := by omega
    clear c1 c2
    go_enter Tryd.func5, Tryd.ntmps5
    go_wp2_with fail
    refine H1.out.mono ?_
    rintro e w1 ⟨A1, c1, rfl, -, b1⟩
    have HB1 := Lib.hid b1
    clear b1
    go_wp2_with fail
    refine (H2.out _ HB1.out).mono ?_
    rintro e w2 ⟨A2, c2, rfl, -, b2⟩
    have HB2 := Lib.hid (HB1.out.trans (b2.mono HB1.out.size))
    clear b2
    go_wp2_with fail
    refine (HA.out _ HB2.out).mono ?_
    rintro e w5 ⟨rfl, b5⟩
    have HB5 := Lib.hid (HB2.out.trans (b5.mono HB2.out.size))
    clear b5
    go_wp2_with fail
    go_ret
    exact ⟨rfl, HB5.out⟩
  · have d1 : (n : Int) ≤ 1000 := by omega
    have d2 : (m : Int) ≤ 1000 := by omega
    clear c1 c2
    go_enter Tryd.func5, Tryd.ntmps5
    go_wp2_with fail
    refine H1.out.mono ?_
    rintro e w1 ⟨A1, c1, rfl, -, b1⟩
    have HB1 := Lib.hid b1
    clear b1
    go_wp2_with fail
    refine (H2.out _ HB1.out).mono ?_
    rintro e w2 ⟨A2, c2, rfl, -, b2⟩
    have HB2 := Lib.hid (HB1.out.trans (b2.mono HB1.out.size))
    clear b2
    go_wp2_with fail
    refine (HA.out _ HB2.out).mono ?_
    rintro e w5 ⟨rfl, b5⟩
    have HB5 := Lib.hid (HB2.out.trans (b5.mono HB2.out.size))
    clear b5
    go_wp2_with fail
    go_ret
    exact ⟨rfl, HB5.out⟩
  · have d1 : (n : Int) ≤ 1000 := by omega
    have d2 : (m : Int) ≤ 1000 := by omega
    clear c1 c2
    go_enter Tryd.func5, Tryd.ntmps5
    go_wp2_with fail
    refine H1.out.mono ?_
    rintro e w1 ⟨A1, c1, rfl, -, b1⟩
    have HB1 := Lib.hid b1
    clear b1
    go_wp2_with fail
    refine (H2.out _ HB1.out).mono ?_
    rintro e w2 ⟨A2, c2, rfl, -, b2⟩
    have HB2 := Lib.hid (HB1.out.trans (b2.mono HB1.out.size))
    clear b2
    go_wp2_with fail
    refine (HA.out _ HB2.out).mono ?_
    rintro e w5 ⟨rfl, b5⟩
    have HB5 := Lib.hid (HB2.out.trans (b5.mono HB2.out.size))
    clear b5
    go_wp2_with fail
    go_ret
    exact ⟨rfl, HB5.out⟩

theorem tokenParts_walk (p : Option Addr) (cap : Nat) (l : List UInt8) (r : Option Addr) (cap' : Nat) (q : List UInt8) (w : World) (h : Bys w w.heap.size p l) (hcap : l.length ≤ cap) (h' : Bys w w.heap.size r q) (hcap' : q.length ≤ cap') (hS : Std w) :
    Calls Tryd.prog 5 #[.slice p l.length cap, .slice r q.length cap'] w fun e w' => e = .returned (.bool true) ∧ Below w.heap.size w w' := by
  have t1 : (l.take 1000).length = min l.length 1000 := by rw [List.length_take]; omega
  have t2 : (q.take 1000).length = min q.length 1000 := by rw [List.length_take]; omega
  have hE := fun hc => tokenParts_early p r cap cap' l.length q.length (l.take 1000) (q.take 1000) w (h.upto _) (by omega) (h'.upto _) (by omega) hS t1 t2 hc
  by_cases hl : l.length ≤ 1000
  · by_cases hq : q.length ≤ 1000
    · rw [List.take_of_length_le hl, List.take_of_length_le hq] at hE
      cases ht : tokens l with
      | inr e => exact hE (.inr (.inr (.inl ⟨hl, hq, by rw [ht]; exact Int.natCast_nonneg _⟩)))
      | inl ts =>
        cases hu : tokens q with
        | inr e => exact hE (.inr (.inr (.inr ⟨hl, hq, by rw [ht]; rfl, by rw [hu]; exact Int.natCast_nonneg _⟩)))
        | inl ys => exact tokenParts_main p r cap cap' l q w h hcap h' hcap' hS hl hq ts ys ht hu
    · exact hE (.inr (.inl ⟨hl, by omega⟩))
  · exact hE (.inl (by omega))
end Go.Proofs.YtkifhgnoadmfkaaDoor
